/- Pieces of the code of functions, compiled for the symbolic interpreter, each checked against the program; no conditions. -/
import Derived.Test.YtljmncdlehinnaaSxLoop
import Derived.Test.YtljmncdlehinnaaRows
import Derived.KernelRfl
import Derived.Test.YtljmncdlehinnaaSxLoop
set_option linter.all false
set_option linter.unusedVariables false
set_option linter.unusedSimpArgs false
set_option linter.unnecessarySimpa false
namespace Go.Sx.Pr
open Go Go.Sx Go.Proofs
set_option maxRecDepth 100000
theorem mix : Try.prog.follows .mixedOrders = true := by kernel_rfl
def K106_1 : CC := .seq (.block 2 (.seq (.reg false [⟨some 45, .fa 7 (.t 1), none, 0⟩,
     ⟨some 46, .ld 1 false (.t 45), none, 0⟩,
     ⟨some 47, .bin .lss (.t 46) (.c (.d (.v (.int .u64 1)))), none, 0⟩,
     ⟨some 44, .mv (.t 47), none, 0⟩])
   (.cond 44 (.seq (.reg false [⟨some 2, .mv (.c (.d (.v (.int .i64 1)))), none, 0⟩])
     (.ret))
     (.seq (.reg false [⟨some 49, .fa 7 (.t 1), none, 0⟩,
       ⟨some 50, .ld 1 false (.t 49), none, 0⟩,
       ⟨some 51, .bin .gtr (.t 50) (.c (.d (.v (.int .u64 1048576)))), none, 0⟩,
       ⟨some 48, .mv (.t 51), none, 0⟩])
     (.cond 48 (.seq (.reg false [⟨some 2, .mv (.c (.d (.v (.int .i64 2)))), none, 0⟩])
       (.ret))
       (.skip))))))
 (.seq (.reg false [⟨some 52, .mv (.t 4), none, 0⟩,
   ⟨some 2, .mv (.t 52), none, 0⟩])
 (.ret))
def L106_2 : CC := .seq (.reg false [⟨some 31, .bin .lss (.t 30) (.c (.d (.v (.int .i64 7)))), none, 0⟩])
 (.seq (.cond 31 (.skip)
   (.exit 0))
 (.seq (.block 1 (.seq (.reg false [⟨some 32, .ixg 7 3 true (.t 29) (.t 30), none, 0⟩,
     ⟨some 6, .newc 127 [.d (.v (.int .i64 0)), .d (.v (.int .i64 0)), .d (.v (.int .i64 0))], none, 0⟩,
     ⟨none, .st 3 (.t 6) (.t 32), none, 0⟩])
   (.seq (.seq (.reg false [⟨some 33, .fa 0 (.t 6), none, 0⟩,
     ⟨some 34, .ld 1 false (.t 33), none, 0⟩,
     ⟨some 35, .fa 1 (.t 6), none, 0⟩,
     ⟨some 36, .ld 1 false (.t 35), none, 0⟩,
     ⟨some 37, .bin .lss (.t 34) (.t 36), none, 0⟩])
   (.cond 37 (.seq (.reg false [⟨some 2, .mv (.c (.d (.v (.int .i64 1)))), none, 0⟩])
     (.ret))
     (.skip)))
   (.seq (.reg false [⟨some 38, .fa 0 (.t 6), none, 0⟩,
     ⟨some 39, .ld 1 false (.t 38), none, 0⟩,
     ⟨some 40, .fa 2 (.t 6), none, 0⟩,
     ⟨some 41, .ld 1 false (.t 40), none, 0⟩,
     ⟨some 42, .bin .gtr (.t 39) (.t 41), none, 0⟩])
   (.cond 42 (.reg false [⟨some 4, .mv (.c (.d (.v (.int .i64 2)))), none, 0⟩])
     (.skip))))))
 (.reg false [⟨some 43, .bin .add (.t 30) (.c (.d (.v (.int .i64 1)))), none, 0⟩,
   ⟨some 30, .mv (.t 43), none, 0⟩])))
def K106_3 : CC := .reg false [⟨some 29, .ld 21 true (.t 3), none, 0⟩,
   ⟨some 30, .mv (.c (.d (.v (.int .i64 0)))), none, 0⟩]
def K106_4 : CC := .reg false [⟨some 4, .mv (.c (.d (.v (.int .i64 0)))), none, 0⟩]
def K106_5 : CC := .reg false [⟨some 7, .fa 0 (.t 1), none, 0⟩,
   ⟨some 8, .ld 1 false (.t 7), none, 0⟩,
   ⟨some 9, .bld [.d (.v (.int .i64 0)), .d (.v (.int .i64 0)), .d (.v (.int .i64 0))] [(0, 1, .t 8), (1, 1, .c (.d (.v (.int .i64 1)))), (2, 1, .c (.d (.v (.int .i64 8))))], none, 0⟩,
   ⟨some 10, .fa 1 (.t 1), none, 0⟩,
   ⟨some 11, .ld 1 false (.t 10), none, 0⟩,
   ⟨some 12, .bld [.d (.v (.int .i64 0)), .d (.v (.int .i64 0)), .d (.v (.int .i64 0))] [(0, 1, .t 11), (1, 1, .c (.d (.v (.int .i64 1)))), (2, 1, .c (.d (.v (.int .i64 8))))], none, 0⟩,
   ⟨some 13, .fa 2 (.t 1), none, 0⟩,
   ⟨some 14, .ld 1 false (.t 13), none, 0⟩,
   ⟨some 15, .bld [.d (.v (.int .i64 0)), .d (.v (.int .i64 0)), .d (.v (.int .i64 0))] [(0, 1, .t 14), (1, 1, .c (.d (.v (.int .i64 1)))), (2, 1, .c (.d (.v (.int .i64 16))))], none, 0⟩,
   ⟨some 16, .fa 3 (.t 1), none, 0⟩,
   ⟨some 17, .ld 1 false (.t 16), none, 0⟩,
   ⟨some 18, .bld [.d (.v (.int .i64 0)), .d (.v (.int .i64 0)), .d (.v (.int .i64 0))] [(0, 1, .t 17), (1, 1, .c (.d (.v (.int .i64 1)))), (2, 1, .c (.d (.v (.int .i64 4))))], none, 0⟩,
   ⟨some 19, .fa 4 (.t 1), none, 0⟩,
   ⟨some 20, .ld 1 false (.t 19), none, 0⟩,
   ⟨some 21, .bld [.d (.v (.int .i64 0)), .d (.v (.int .i64 0)), .d (.v (.int .i64 0))] [(0, 1, .t 20), (1, 1, .c (.d (.v (.int .i64 1)))), (2, 1, .c (.d (.v (.int .i64 32))))], none, 0⟩,
   ⟨some 22, .fa 5 (.t 1), none, 0⟩,
   ⟨some 23, .ld 1 false (.t 22), none, 0⟩,
   ⟨some 24, .bld [.d (.v (.int .i64 0)), .d (.v (.int .i64 0)), .d (.v (.int .i64 0))] [(0, 1, .t 23), (1, 1, .c (.d (.v (.int .i64 0)))), (2, 1, .c (.d (.v (.int .i64 4))))], none, 0⟩,
   ⟨some 25, .fa 6 (.t 1), none, 0⟩,
   ⟨some 26, .ld 1 false (.t 25), none, 0⟩,
   ⟨some 27, .bld [.d (.v (.int .i64 0)), .d (.v (.int .i64 0)), .d (.v (.int .i64 0))] [(0, 1, .t 26), (1, 1, .c (.d (.v (.int .i64 1)))), (2, 1, .c (.d (.v (.int .i64 8))))], none, 0⟩,
   ⟨some 28, .bld [.d (.v (.int .i64 0)), .d (.v (.int .i64 0)), .d (.v (.int .i64 0)), .d (.v (.int .i64 0)), .d (.v (.int .i64 0)), .d (.v (.int .i64 0)), .d (.v (.int .i64 0)), .d (.v (.int .i64 0)), .d (.v (.int .i64 0)), .d (.v (.int .i64 0)), .d (.v (.int .i64 0)), .d (.v (.int .i64 0)), .d (.v (.int .i64 0)), .d (.v (.int .i64 0)), .d (.v (.int .i64 0)), .d (.v (.int .i64 0)), .d (.v (.int .i64 0)), .d (.v (.int .i64 0)), .d (.v (.int .i64 0)), .d (.v (.int .i64 0)), .d (.v (.int .i64 0))] [(0, 3, .t 9), (3, 3, .t 12), (6, 3, .t 15), (9, 3, .t 18), (12, 3, .t 21), (15, 3, .t 24), (18, 3, .t 27)], none, 0⟩,
   ⟨some 3, .newc 128 [.d (.v (.int .i64 0)), .d (.v (.int .i64 0)), .d (.v (.int .i64 0)), .d (.v (.int .i64 0)), .d (.v (.int .i64 0)), .d (.v (.int .i64 0)), .d (.v (.int .i64 0)), .d (.v (.int .i64 0)), .d (.v (.int .i64 0)), .d (.v (.int .i64 0)), .d (.v (.int .i64 0)), .d (.v (.int .i64 0)), .d (.v (.int .i64 0)), .d (.v (.int .i64 0)), .d (.v (.int .i64 0)), .d (.v (.int .i64 0)), .d (.v (.int .i64 0)), .d (.v (.int .i64 0)), .d (.v (.int .i64 0)), .d (.v (.int .i64 0)), .d (.v (.int .i64 0))], none, 0⟩,
   ⟨none, .st 21 (.t 3) (.t 28), none, 0⟩]
def K106_6 : CC := .reg false [⟨some 1, .box 26 8 (.t 0), none, 0⟩,
   ⟨some 2, .mv (.c (.d (.v (.int .i64 0)))), none, 0⟩]
/-- coatcheck/plan.Check -/
def C106 : CF := ⟨1, [(2, none)],
 .seq K106_6 (.seq K106_5 (.seq K106_4 (.seq (.seq K106_3 (.block 0 (.loop L106_2))) K106_1)))⟩
theorem c106 : coF Try.prog Try.f88 = some C106 := by kernel_rfl
def A106 : Ann := { keep := [0, 1, 2, 3, 4, 6, 29, 30, 31, 37, 42, 44, 48], live := [(0, [1, 4, 29, 30])] }
def E106 {Ω : Type} : Env Ω := enil
theorem e106 : GoodE Try.prog E106 := GoodE.nil
def Z106_2 {Ω : Type} (it : Itr Ω) (K : SV → SH → Option Ω) : SE → SS → Option Ω := kblk 0 (kseq it E106 A106 K106_1 0 (kfn C106 K))
/-- slices.Clone[[]uint64,uint64] -/
def C65 : CF := ⟨1, [(2, none)],
 .seq (.reg false [⟨some 2, .mv (.c (.d (.v (.slice none 0 0)))), none, 0⟩])
 (.seq (.seq (.reg false [⟨some 3, .mv (.t 0), none, 0⟩,
   ⟨some 4, .eq .slc false (.t 3) (.c (.d (.v (.slice none 0 0)))), none, 0⟩])
 (.cond 4 (.seq (.reg false [⟨some 2, .mv (.c (.d (.v (.slice none 0 0)))), none, 0⟩])
   (.ret))
   (.skip)))
 (.seq (.reg false [⟨some 5, .bsl 24 1 0 [.d (.v (.int .u64 0))] [], none, 0⟩,
   ⟨some 6, .mv (.t 0), none, 0⟩,
   ⟨some 7, .app 24 1 8 (some .u64) (.t 5) (.t 6), none, 0⟩,
   ⟨some 2, .mv (.t 7), none, 0⟩])
 (.ret)))⟩
theorem c65 : coF Try.prog Try.f63 = some C65 := by kernel_rfl
def A65 : Ann := { keep := [0, 2, 4], live := [] }
def E65 {Ω : Type} : Env Ω := enil
theorem e65 : GoodE Try.prog E65 := GoodE.nil
end Go.Sx.Pr

/- Contracts of the functions with loops: both checks of a configuration, the layout's list, equality of lists, clone. -/
namespace Go.Sx.Pr
open Go Go.Sx Go.Proofs
set_option maxRecDepth 100000

abbrev cfgK : List IntKind := [.i64, .i64, .i64, .i64, .i64, .i64, .i64, .u64]
abbrev CFG (a b c d e f g l : Int) : SO := .cells 26 [I a, I b, I c, I d, I e, I f, I g, U l]
abbrev cfgS (a b c d e f g l : Int) : SV := .agg [I a, I b, I c, I d, I e, I f, I g, U l]

/-- Check: workers a, slabs b, blocks c, words d, entries e, rack f, bag g, last l. -/
def chk (a b c d e f g l : Int) : Int :=
  bif decide (a < 1) || (decide (b < 1) || (decide (c < 1) || (decide (d < 1) || (decide (e < 1) || (decide (g < 1) || (decide (f < 0) || decide (l < 1))))))) then 1 else
  bif decide (a > 8) || (decide (b > 8) || (decide (c > 16) || (decide (d > 4) || (decide (e > 32) || (decide (g > 8) || (decide (f > 4) || decide (l > 1048576))))))) then 2 else 0

theorem chk_zero {a b c d e f g l : Int} (h : chk a b c d e f g l = 0) : (1 ≤ a ∧ a ≤ 8) ∧ (1 ≤ b ∧ b ≤ 8) ∧ (1 ≤ c ∧ c ≤ 16) ∧ (1 ≤ d ∧ d ≤ 4) ∧ (1 ≤ e ∧ e ≤ 32) ∧ (0 ≤ f ∧ f ≤ 4) ∧ (1 ≤ g ∧ g ≤ 8) ∧ (1 ≤ l ∧ l ≤ 1048576) := by
  unfold chk at h
  rw [cond_eq_ite, cond_eq_ite] at h
  split at h
  · cases h
  · split at h
    · cases h
    · rename_i h1 h2
      simp only [Bool.or_eq_true, decide_eq_true_eq, not_or] at h1 h2
      omega

def FChk : List (List Int) → Option (Bool × SV × SH)
  | [[a, b, c, d, e, f, g, l]] => some (true, I (chk a b c d e f g l), [])
  | _ => none

theorem or_cond {α : Type} (a b : Bool) (x y : α) : (bif a || b then x else y) = bif a then x else bif b then x else y := by cases a <;> rfl

theorem lenAs_one {l : List (List Int)} {ks : List IntKind} (h : lenAs [.g ks] l) : ∃ a, l = [a] ∧ a.length = ks.length := by
  obtain ⟨a, r, rfl, h1, h2⟩ := h
  simp only [lenAs] at h2
  subst h2
  exact ⟨a, rfl, h1⟩

theorem eight {α : Type} {l : List α} (h : l.length = 8) : ∃ a b c d e f g i, l = [a, b, c, d, e, f, g, i] := by
  match l, h with
  | [a, b, c, d, e, f, g, i], _ => exact ⟨a, b, c, d, e, f, g, i, rfl⟩

def S19 {Ω : Type} : Spec Ω := conSpec [.g cfgK] FChk
/-! ### plan.Check -/
abbrev ARR (a b c d e f g : Int) : List SV := [I a, I 1, I 8, I b, I 1, I 8, I c, I 1, I 16, I d, I 1, I 4, I e, I 1, I 32, I f, I 0, I 4, I g, I 1, I 8]
abbrev S106s (x i a b c d e f g l : Int) : SS := ⟨[(1, .ptr 0 0), (4, I x), (29, .agg (ARR a b c d e f g)), (30, I i)], [CFG a b c d e f g l, .cells 128 (ARR a b c d e f g)]⟩

section
variable {Ω : Type} (it : Itr Ω) (IT : SS → Option Ω) (K : SV → SH → Option Ω) (x a b c d e f g l : Int)
theorem r106 : sxFnI it E106 A106 C106 [cfgS a b c d e f g l] [] K = it [1, 4, 29, 30] 2 (sxI it E106 A106 L106_2 0) (S106s 0 0 a b c d e f g l) (Z106_2 it K) := by kernel_rfl
theorem r106_0 : sxI it E106 A106 L106_2 0 (S106s x 0 a b c d e f g l) (kitV [1, 4, 29, 30] 2 IT (Z106_2 it K)) =
    br (decide (a < 1)) (K (I 1) [CFG a b c d e f g l, .cells 128 (ARR a b c d e f g), .cells 127 [I a, I 1, I 8]]) (br (decide (a > 8)) (IT (S106s 2 1 a b c d e f g l)) (IT (S106s x 1 a b c d e f g l))) := by kernel_rfl
theorem r106_1 : sxI it E106 A106 L106_2 0 (S106s x 1 a b c d e f g l) (kitV [1, 4, 29, 30] 2 IT (Z106_2 it K)) =
    br (decide (b < 1)) (K (I 1) [CFG a b c d e f g l, .cells 128 (ARR a b c d e f g), .cells 127 [I b, I 1, I 8]]) (br (decide (b > 8)) (IT (S106s 2 2 a b c d e f g l)) (IT (S106s x 2 a b c d e f g l))) := by kernel_rfl
theorem r106_2 : sxI it E106 A106 L106_2 0 (S106s x 2 a b c d e f g l) (kitV [1, 4, 29, 30] 2 IT (Z106_2 it K)) =
    br (decide (c < 1)) (K (I 1) [CFG a b c d e f g l, .cells 128 (ARR a b c d e f g), .cells 127 [I c, I 1, I 16]]) (br (decide (c > 16)) (IT (S106s 2 3 a b c d e f g l)) (IT (S106s x 3 a b c d e f g l))) := by kernel_rfl
theorem r106_3 : sxI it E106 A106 L106_2 0 (S106s x 3 a b c d e f g l) (kitV [1, 4, 29, 30] 2 IT (Z106_2 it K)) =
    br (decide (d < 1)) (K (I 1) [CFG a b c d e f g l, .cells 128 (ARR a b c d e f g), .cells 127 [I d, I 1, I 4]]) (br (decide (d > 4)) (IT (S106s 2 4 a b c d e f g l)) (IT (S106s x 4 a b c d e f g l))) := by kernel_rfl
theorem r106_4 : sxI it E106 A106 L106_2 0 (S106s x 4 a b c d e f g l) (kitV [1, 4, 29, 30] 2 IT (Z106_2 it K)) =
    br (decide (e < 1)) (K (I 1) [CFG a b c d e f g l, .cells 128 (ARR a b c d e f g), .cells 127 [I e, I 1, I 32]]) (br (decide (e > 32)) (IT (S106s 2 5 a b c d e f g l)) (IT (S106s x 5 a b c d e f g l))) := by kernel_rfl
theorem r106_5 : sxI it E106 A106 L106_2 0 (S106s x 5 a b c d e f g l) (kitV [1, 4, 29, 30] 2 IT (Z106_2 it K)) =
    br (decide (f < 0)) (K (I 1) [CFG a b c d e f g l, .cells 128 (ARR a b c d e f g), .cells 127 [I f, I 0, I 4]]) (br (decide (f > 4)) (IT (S106s 2 6 a b c d e f g l)) (IT (S106s x 6 a b c d e f g l))) := by kernel_rfl
theorem r106_6 : sxI it E106 A106 L106_2 0 (S106s x 6 a b c d e f g l) (kitV [1, 4, 29, 30] 2 IT (Z106_2 it K)) =
    br (decide (g < 1)) (K (I 1) [CFG a b c d e f g l, .cells 128 (ARR a b c d e f g), .cells 127 [I g, I 1, I 8]]) (br (decide (g > 8)) (IT (S106s 2 7 a b c d e f g l)) (IT (S106s x 7 a b c d e f g l))) := by kernel_rfl
theorem r106_7 : sxI it E106 A106 L106_2 0 (S106s x 7 a b c d e f g l) (kitV [1, 4, 29, 30] 2 IT (Z106_2 it K)) =
    br (decide (l < 1)) (K (I 1) [CFG a b c d e f g l, .cells 128 (ARR a b c d e f g)]) (br (decide (l > 1048576)) (K (I 2) [CFG a b c d e f g l, .cells 128 (ARR a b c d e f g)]) (K (I x) [CFG a b c d e f g l, .cells 128 (ARR a b c d e f g)])) := by kernel_rfl
end

abbrev IT106 (n : Nat) (x j a b c d e f g l : Int) : Option (SV × SH) := iter [1, 4, 29, 30] 2 (sxI itB E106 A106 L106_2 0) n (S106s x j a b c d e f g l) (Z106_2 itB fun r h => some (r, h))

theorem round106 {X : Option (SV × SH)} {Y : Int → Option (SV × SH)} {w : Int → Int} {p q : Bool} {x : Int} (h1 : ∃ H, X = some (I 1, H)) (hY : ∀ x, ∃ H, Y x = some (I (w x), H)) : ∃ H, br p X (br q (Y 2) (Y x)) = some (I (bif p then 1 else w (bif q then 2 else x)), H) := by
  cases p with
  | true => exact h1
  | false =>
    cases q with
    | true => exact hY 2
    | false => exact hY x

theorem last106 {p q : Bool} {x : Int} {H1 H2 H3 : SH} : ∃ H, br p (some (I 1, H1)) (br q (some (I 2, H2)) (some (I x, H3))) = some (I (bif p then 1 else bif q then 2 else x), H) := by
  cases p with
  | true => exact ⟨_, rfl⟩
  | false =>
    cases q with
    | true => exact ⟨_, rfl⟩
    | false => exact ⟨_, rfl⟩

def w7 (l x : Int) : Int := bif decide (l < 1) then 1 else bif decide (l > 1048576) then 2 else x
def w6 (g l x : Int) : Int := bif decide (g < 1) then 1 else w7 l (bif decide (g > 8) then 2 else x)
def w5 (f g l x : Int) : Int := bif decide (f < 0) then 1 else w6 g l (bif decide (f > 4) then 2 else x)
def w4 (e f g l x : Int) : Int := bif decide (e < 1) then 1 else w5 f g l (bif decide (e > 32) then 2 else x)
def w3 (d e f g l x : Int) : Int := bif decide (d < 1) then 1 else w4 e f g l (bif decide (d > 4) then 2 else x)
def w2 (c d e f g l x : Int) : Int := bif decide (c < 1) then 1 else w3 d e f g l (bif decide (c > 16) then 2 else x)
def w1 (b c d e f g l x : Int) : Int := bif decide (b < 1) then 1 else w2 c d e f g l (bif decide (b > 8) then 2 else x)
def w0 (a b c d e f g l x : Int) : Int := bif decide (a < 1) then 1 else w1 b c d e f g l (bif decide (a > 8) then 2 else x)

theorem v106 (a b c d e f g l : Int) : ∃ H, sxFn E106 A106 C106 [cfgS a b c d e f g l] [] (fun r h => some (r, h)) = some (I (chk a b c d e f g l), H) := by
  have h7 : ∀ n x, ∃ H, IT106 (n + 1) x 7 a b c d e f g l = some (I (w7 l x), H) := fun n x => by
    unfold IT106
    rw [iter_succ, r106_7]
    exact last106
  have h6 : ∀ n x, ∃ H, IT106 (n + 2) x 6 a b c d e f g l = some (I (w6 g l x), H) := fun n x => by
    unfold IT106
    rw [iter_succ, r106_6]
    exact round106 (Y := fun x => IT106 (n + 1) x 7 a b c d e f g l) ⟨_, rfl⟩ (h7 n)
  have h5 : ∀ n x, ∃ H, IT106 (n + 3) x 5 a b c d e f g l = some (I (w5 f g l x), H) := fun n x => by
    unfold IT106
    rw [iter_succ, r106_5]
    exact round106 (Y := fun x => IT106 (n + 2) x 6 a b c d e f g l) ⟨_, rfl⟩ (h6 n)
  have h4 : ∀ n x, ∃ H, IT106 (n + 4) x 4 a b c d e f g l = some (I (w4 e f g l x), H) := fun n x => by
    unfold IT106
    rw [iter_succ, r106_4]
    exact round106 (Y := fun x => IT106 (n + 3) x 5 a b c d e f g l) ⟨_, rfl⟩ (h5 n)
  have h3 : ∀ n x, ∃ H, IT106 (n + 5) x 3 a b c d e f g l = some (I (w3 d e f g l x), H) := fun n x => by
    unfold IT106
    rw [iter_succ, r106_3]
    exact round106 (Y := fun x => IT106 (n + 4) x 4 a b c d e f g l) ⟨_, rfl⟩ (h4 n)
  have h2 : ∀ n x, ∃ H, IT106 (n + 6) x 2 a b c d e f g l = some (I (w2 c d e f g l x), H) := fun n x => by
    unfold IT106
    rw [iter_succ, r106_2]
    exact round106 (Y := fun x => IT106 (n + 5) x 3 a b c d e f g l) ⟨_, rfl⟩ (h3 n)
  have h1 : ∀ n x, ∃ H, IT106 (n + 7) x 1 a b c d e f g l = some (I (w1 b c d e f g l x), H) := fun n x => by
    unfold IT106
    rw [iter_succ, r106_1]
    exact round106 (Y := fun x => IT106 (n + 6) x 2 a b c d e f g l) ⟨_, rfl⟩ (h2 n)
  have h0 : ∀ n x, ∃ H, IT106 (n + 8) x 0 a b c d e f g l = some (I (w0 a b c d e f g l x), H) := fun n x => by
    unfold IT106
    rw [iter_succ, r106_0]
    exact round106 (Y := fun x => IT106 (n + 7) x 1 a b c d e f g l) ⟨_, rfl⟩ (h1 n)
  obtain ⟨H, hH⟩ := h0 999999999992 0
  refine ⟨H, ?_⟩
  rw [← sxFnI_eq, r106]
  have e1 : w0 a b c d e f g l 0 = chk a b c d e f g l := by
    simp only [w0, w1, w2, w3, w4, w5, w6, w7, chk, or_cond]
    generalize decide (a < 1) = p0
    generalize decide (b < 1) = p1
    generalize decide (c < 1) = p2
    generalize decide (d < 1) = p3
    generalize decide (e < 1) = p4
    generalize decide (f < 0) = p5
    generalize decide (g < 1) = p6
    generalize decide (l < 1) = p7
    generalize decide (a > 8) = q0
    generalize decide (b > 8) = q1
    generalize decide (c > 16) = q2
    generalize decide (d > 4) = q3
    generalize decide (e > 32) = q4
    generalize decide (f > 4) = q5
    generalize decide (g > 8) = q6
    generalize decide (l > 1048576) = q7
    clear h0 h1 h2 h3 h4 h5 h6 h7 hH
    cases p0 <;> simp only [cond_true, cond_false]
    cases p1 <;> simp only [cond_true, cond_false]
    cases p2 <;> simp only [cond_true, cond_false]
    cases p3 <;> simp only [cond_true, cond_false]
    cases p4 <;> simp only [cond_true, cond_false]
    cases p5 <;> cases p6 <;> cases p7 <;> simp only [cond_true, cond_false]
    cases q7 <;> simp only [cond_true, cond_false]
    · revert q0 q1 q2 q3 q4 q5 q6; decide
    · revert q0 q1 q2 q3 q4 q5 q6; decide
  rw [e1] at hH
  exact hH

def S106 {Ω : Type} : Spec Ω := conSpec [.g cfgK] FChk
theorem g106 : Good1 Try.prog 88 S106 := conGood Try.func88 (by kernel_rfl) c106 e106 mix (A := A106) fun l r hr hl hF => by
  obtain ⟨x, rfl, hx⟩ := lenAs_one hl
  obtain ⟨a, b, c, d, e, f, g, i, rfl⟩ := eight hx
  simp only [FChk, Option.some.injEq, Prod.mk.injEq, true_and] at hF
  obtain ⟨rfl, rfl⟩ := hF
  obtain ⟨H, hH⟩ := v106 a b c d e f g i
  exact ⟨trivial, trivial, H, trim_none rfl _, hH⟩
end Go.Sx.Pr

/- Contracts: equality of lists of words, clone, the layout's list. -/
namespace Go.Sx.Pr
open Go Go.Sx Go.Proofs
set_option maxRecDepth 100000

/-! ### ref02.Same -/
section
variable {Ω : Type} (it : Itr Ω) (IT : SS → Option Ω) (K : SV → SH → Option Ω) (xs ys : List Int) (i : Int)
end

/-! ### slices.Clone -/
def S65 {Ω : Type} : Spec Ω := sClone .u64 24 8
theorem g65 : Good1 Try.prog 63 S65 := clone_good Try.func63 (by kernel_rfl) c65 (A := A65) e65 mix
  (fun cc => by kernel_rfl)
  (fun a c => ⟨[.dead, .rowi 24 .u64 []], 1, by kernel_rfl, rfl⟩)
  (fun x r => ⟨[.dead, .rowi 24 .u64 (x :: r)], 1, by
    have : sxFn E65 A65 C65 [.d (.ints .u64 (x :: r))] [] (fun r h => some (r, h)) = br (fits (0 + List.length (x :: r)) 8) (some (.own 1, [.dead, .rowi 24 .u64 (x :: r)])) none := by kernel_rfl
    rw [this]
    simp, rfl⟩)
end Go.Sx.Pr

/- Contract: the layout's list. -/
namespace Go.Sx.Pr
open Go Go.Sx Go.Proofs
set_option maxRecDepth 100000

abbrev dI (x : Int) : DV := .v (.int .i64 x)
def ap (l : List DV) : Nat → Nat → DV := fun i j => lkD l (i * 3 + j)
section
variable {Ω : Type} (it : Itr Ω) (IT : SS → Option Ω) (K : SV → SH → Option Ω) (KK : SE → SS → Option Ω) (a b c d e f g l : Int) (i j : Int) (m : Nat) (q : Nat → Nat → DV)
end

def d1 (i : Nat) : List DV := [dI 1, dI i, dI 0]
def d2 (i : Nat) : List DV := [dI 2, dI i, dI 0]
def d3 (i : Nat) : List DV := [dI 3, dI i, dI 0, dI 4, dI i, dI 0]
section
variable {Ω : Type} (K : SV → SH → Option Ω) (KK : SE → SS → Option Ω) (a b c d e f g l : Int) (q : Nat → Nat → DV)

end

/-- How many words there are. -/
def sizeN (A Bn Cn D E : Nat) : Nat := 3 + 1 * A + 1 * Bn + 2 * E + (1 + D) * (Bn * Cn)
end Go.Sx.Pr

namespace Go.Sx.Pr
open Go Go.Sx Go.Proofs
set_option maxRecDepth 100000
/-- (coatcheck/plan.Plan).slabs -/
def C125 : CF := ⟨1, [(2, none)],
 .seq (.reg false [⟨some 1, .box 75 8 (.t 0), none, 0⟩,
   ⟨some 2, .mv (.c (.d (.v (.int .i64 0)))), none, 0⟩])
 (.seq (.reg false [⟨some 3, .fa 0 (.t 1), none, 0⟩,
   ⟨some 4, .fa 0 (.t 3), none, 0⟩,
   ⟨some 5, .ld 1 false (.t 4), none, 0⟩,
   ⟨some 6, .bin .add (.c (.d (.v (.int .i64 3)))) (.t 5), none, 0⟩,
   ⟨some 2, .mv (.t 6), none, 0⟩])
 (.ret))⟩
theorem c125 : coF Try.prog Try.f99 = some C125 := by kernel_rfl
def A125 : Ann := { keep := [0, 1, 2], live := [] }
def E125 {Ω : Type} : Env Ω := enil
theorem e125 : GoodE Try.prog E125 := GoodE.nil
def S125 {Ω : Type} : Spec Ω := inl E125 A125 C125 false
theorem g125 : Good1 Try.prog 99 S125 := Good1.inl e125 mix Try.func99 (by kernel_rfl) c125 A125 false
/-- (coatcheck/plan.Plan).entries -/
def C127 : CF := ⟨1, [(2, none)],
 .seq (.reg false [⟨some 1, .box 75 8 (.t 0), none, 0⟩,
   ⟨some 2, .mv (.c (.d (.v (.int .i64 0)))), none, 0⟩])
 (.seq (.reg true [⟨some 3, .ld 8 true (.t 1), none, 0⟩,
   ⟨some 4, .call (.c (.fn (.func 99) [] [])) [.t 3], none, 1⟩,
   ⟨some 5, .fa 0 (.t 1), none, 0⟩,
   ⟨some 6, .fa 1 (.t 5), none, 4⟩,
   ⟨some 7, .ld 1 false (.t 6), none, 12⟩,
   ⟨some 8, .bin .add (.t 4) (.t 7), none, 31⟩,
   ⟨some 2, .mv (.t 8), none, 63⟩])
 (.ret))⟩
theorem c127 : coF Try.prog Try.f90 = some C127 := by kernel_rfl
def A127 : Ann := { keep := [0, 1, 2], live := [] }
def E127 {Ω : Type} : Env Ω := econs 99 S125 (enil)
theorem e127 : GoodE Try.prog E127 := GoodE.cons g125 (GoodE.nil)
def S127 {Ω : Type} : Spec Ω := inl E127 A127 C127 false
theorem g127 : Good1 Try.prog 90 S127 := Good1.inl e127 mix Try.func90 (by kernel_rfl) c127 A127 false
/-- (coatcheck/plan.Plan).blocks -/
def C107 : CF := ⟨1, [(2, none)],
 .seq (.reg false [⟨some 1, .box 75 8 (.t 0), none, 0⟩,
   ⟨some 2, .mv (.c (.d (.v (.int .i64 0)))), none, 0⟩])
 (.seq (.reg true [⟨some 3, .ld 8 true (.t 1), none, 0⟩,
   ⟨some 4, .call (.c (.fn (.func 90) [] [])) [.t 3], none, 1⟩,
   ⟨some 5, .fa 0 (.t 1), none, 0⟩,
   ⟨some 6, .fa 4 (.t 5), none, 4⟩,
   ⟨some 7, .ld 1 false (.t 6), none, 12⟩,
   ⟨some 8, .bin .mul (.c (.d (.v (.int .i64 2)))) (.t 7), none, 28⟩,
   ⟨some 9, .bin .add (.t 4) (.t 8), none, 63⟩,
   ⟨some 2, .mv (.t 9), none, 127⟩])
 (.ret))⟩
theorem c107 : coF Try.prog Try.f105 = some C107 := by kernel_rfl
def A107 : Ann := { keep := [0, 1, 2], live := [] }
def E107 {Ω : Type} : Env Ω := econs 90 S127 (enil)
theorem e107 : GoodE Try.prog E107 := GoodE.cons g127 (GoodE.nil)
def S107 {Ω : Type} : Spec Ω := inl E107 A107 C107 false
theorem g107 : Good1 Try.prog 105 S107 := Good1.inl e107 mix Try.func105 (by kernel_rfl) c107 A107 false
/-- (coatcheck/plan.Plan).Total -/
def C108 : CF := ⟨1, [(2, none)],
 .seq (.reg false [⟨some 1, .box 75 8 (.t 0), none, 0⟩,
   ⟨some 2, .mv (.c (.d (.v (.int .i64 0)))), none, 0⟩])
 (.seq (.seq (.reg false [⟨some 3, .fa 0 (.t 1), none, 0⟩,
   ⟨some 4, .ld 8 true (.t 3), none, 0⟩,
   ⟨some 5, .call (.c (.fn (.func 88) [] [])) [.t 4], none, 0⟩,
   ⟨some 6, .eq .int true (.t 5) (.c (.d (.v (.int .i64 0)))), none, 0⟩])
 (.cond 6 (.seq (.reg false [⟨some 2, .mv (.c (.d (.v (.int .i64 0)))), none, 0⟩])
   (.ret))
   (.skip)))
 (.seq (.reg false [⟨some 7, .fa 0 (.t 1), none, 0⟩,
   ⟨some 8, .fa 1 (.t 7), none, 0⟩,
   ⟨some 9, .ld 1 false (.t 8), none, 0⟩,
   ⟨some 10, .fa 0 (.t 1), none, 0⟩,
   ⟨some 11, .fa 2 (.t 10), none, 0⟩,
   ⟨some 12, .ld 1 false (.t 11), none, 0⟩,
   ⟨some 13, .bin .mul (.t 9) (.t 12), none, 0⟩,
   ⟨some 2, .mv (.t 13), none, 0⟩])
 (.ret)))⟩
theorem c108 : coF Try.prog Try.f106 = some C108 := by kernel_rfl
def A108 : Ann := { keep := [0, 1, 2, 6], live := [] }
def E108 {Ω : Type} : Env Ω := econs 88 S106 (enil)
theorem e108 : GoodE Try.prog E108 := GoodE.cons g106 (GoodE.nil)
def S108 {Ω : Type} : Spec Ω := inl E108 A108 C108 false
theorem g108 : Good1 Try.prog 106 S108 := Good1.inl e108 mix Try.func106 (by kernel_rfl) c108 A108 false
/-- (coatcheck/plan.Plan).Size -/
def C64 : CF := ⟨1, [(2, none)],
 .seq (.reg false [⟨some 1, .box 75 8 (.t 0), none, 0⟩,
   ⟨some 2, .mv (.c (.d (.v (.int .i64 0)))), none, 0⟩])
 (.seq (.seq (.reg false [⟨some 3, .fa 0 (.t 1), none, 0⟩,
   ⟨some 4, .ld 8 true (.t 3), none, 0⟩,
   ⟨some 5, .call (.c (.fn (.func 88) [] [])) [.t 4], none, 0⟩,
   ⟨some 6, .eq .int true (.t 5) (.c (.d (.v (.int .i64 0)))), none, 0⟩])
 (.cond 6 (.seq (.reg false [⟨some 2, .mv (.c (.d (.v (.int .i64 0)))), none, 0⟩])
   (.ret))
   (.skip)))
 (.seq (.reg true [⟨some 7, .ld 8 true (.t 1), none, 0⟩,
   ⟨some 8, .call (.c (.fn (.func 105) [] [])) [.t 7], none, 1⟩,
   ⟨some 9, .ld 8 true (.t 1), none, 0⟩,
   ⟨some 10, .call (.c (.fn (.func 106) [] [])) [.t 9], none, 7⟩,
   ⟨some 11, .fa 0 (.t 1), none, 0⟩,
   ⟨some 12, .fa 3 (.t 11), none, 16⟩,
   ⟨some 13, .ld 1 false (.t 12), none, 48⟩,
   ⟨some 14, .bin .add (.c (.d (.v (.int .i64 1)))) (.t 13), none, 112⟩,
   ⟨some 15, .bin .mul (.t 10) (.t 14), none, 255⟩,
   ⟨some 16, .bin .add (.t 8) (.t 15), none, 511⟩,
   ⟨some 2, .mv (.t 16), none, 1023⟩])
 (.ret)))⟩
theorem c64 : coF Try.prog Try.f86 = some C64 := by kernel_rfl
def A64 : Ann := { keep := [0, 1, 2, 6], live := [] }
def E64 {Ω : Type} : Env Ω := econs 88 S106 (econs 105 S107 (econs 106 S108 (enil)))
theorem e64 : GoodE Try.prog E64 := GoodE.cons g106 (GoodE.cons g107 (GoodE.cons g108 (GoodE.nil)))
end Go.Sx.Pr

/- Contract: the number of words. -/
namespace Go.Sx.Pr
open Go Go.Sx Go.Proofs
set_option maxRecDepth 100000

/-- The number of words of a valid configuration, else 0. -/
def szZ (a b c d e f g l : Int) : Int := bif chk a b c d e f g l == 0 then (sizeN a.toNat b.toNat c.toNat d.toNat e.toNat : Int) else 0

theorem r64 {Ω : Type} (it : Itr Ω) (K : SV → SH → Option Ω) (a b c d e f g l : Int) :
    sxFnI it E64 A64 C64 [cfgS a b c d e f g l] [] K =
    br (!chk a b c d e f g l == 0) (K (I 0) [.cells 75 [I a, I b, I c, I d, I e, I f, I g, U l]]) (br (!chk a b c d e f g l == 0) (K (I (IntKind.wrap .i64 (IntKind.wrap .i64 (IntKind.wrap .i64 (IntKind.wrap .i64 (3 + a) + b) + IntKind.wrap .i64 (2 * e)) + IntKind.wrap .i64 (0 * IntKind.wrap .i64 (1 + d))))) [.cells 75 [I a, I b, I c, I d, I e, I f, I g, U l]]) (K (I (IntKind.wrap .i64 (IntKind.wrap .i64 (IntKind.wrap .i64 (IntKind.wrap .i64 (3 + a) + b) + IntKind.wrap .i64 (2 * e)) + IntKind.wrap .i64 (IntKind.wrap .i64 (b * c) * IntKind.wrap .i64 (1 + d))))) [.cells 75 [I a, I b, I c, I d, I e, I f, I g, U l]])) := by kernel_rfl

theorem v64 {Ω : Type} (K : SV → SH → Option Ω) (a b c d e f g l : Int) : sxFn E64 A64 C64 [cfgS a b c d e f g l] [] K = K (I (szZ a b c d e f g l)) [.cells 75 [I a, I b, I c, I d, I e, I f, I g, U l]] := by
  rw [← sxFnI_eq, r64]
  unfold szZ
  by_cases h : chk a b c d e f g l = 0
  · have h0 : (chk a b c d e f g l == 0) = true := by simp [h]
    rw [h0]
    simp only [br, Bool.not_true, cond_false, cond_true]
    obtain ⟨⟨a1, a2⟩, ⟨b1, b2⟩, ⟨c1, c2⟩, ⟨g1, g2⟩, ⟨e1, e2⟩, _⟩ := chk_zero h
    obtain ⟨A, rfl⟩ := Int.eq_ofNat_of_zero_le (show 0 ≤ a by omega)
    obtain ⟨Bn, rfl⟩ := Int.eq_ofNat_of_zero_le (show 0 ≤ b by omega)
    obtain ⟨Cn, rfl⟩ := Int.eq_ofNat_of_zero_le (show 0 ≤ c by omega)
    obtain ⟨Dn, rfl⟩ := Int.eq_ofNat_of_zero_le (show 0 ≤ d by omega)
    obtain ⟨En, rfl⟩ := Int.eq_ofNat_of_zero_le (show 0 ≤ e by omega)
    have hBC : Bn * Cn ≤ 8 * 16 := Nat.mul_le_mul (by omega) (by omega)
    have hP : (Bn * Cn) * (1 + Dn) ≤ 128 * 5 := Nat.mul_le_mul (by omega) (by omega)
    have e1 : IntKind.wrap .i64 ((Bn : Int) * Cn) = ((Bn * Cn : Nat) : Int) := by rw [← Int.natCast_mul, w64] <;> omega
    have e2 : IntKind.wrap .i64 (1 + (Dn : Int)) = ((1 + Dn : Nat) : Int) := by rw [w64] <;> omega
    have e3 : IntKind.wrap .i64 (((Bn * Cn : Nat) : Int) * ((1 + Dn : Nat) : Int)) = ((Bn * Cn * (1 + Dn) : Nat) : Int) := by rw [← Int.natCast_mul, w64] <;> omega
    rw [e1, e2, e3]
    have e4 : IntKind.wrap .i64 (3 + (A : Int)) = 3 + A := by rw [w64] <;> omega
    have e5 : IntKind.wrap .i64 (3 + (A : Int) + Bn) = 3 + A + Bn := by rw [w64] <;> omega
    have e6 : IntKind.wrap .i64 (2 * (En : Int)) = 2 * En := by rw [w64] <;> omega
    have e7 : IntKind.wrap .i64 (3 + (A : Int) + Bn + 2 * En) = 3 + A + Bn + 2 * En := by rw [w64] <;> omega
    have e8 : IntKind.wrap .i64 (3 + (A : Int) + Bn + 2 * En + ((Bn * Cn * (1 + Dn) : Nat) : Int)) = 3 + A + Bn + 2 * En + ((Bn * Cn * (1 + Dn) : Nat) : Int) := by rw [w64] <;> omega
    rw [e4, e5, e6, e7, e8]
    simp only [Int.toNat_natCast, sizeN]
    have e9 : (1 + Dn) * (Bn * Cn) = Bn * Cn * (1 + Dn) := Nat.mul_comm _ _
    rw [e9]
    congr 4
    omega
  · have h0 : (chk a b c d e f g l == 0) = false := by simp [h]
    rw [h0]
    simp only [br, Bool.not_false, cond_true, cond_false]

def FSize : List (List Int) → Option (Bool × SV × SH)
  | [[a, b, c, d, e, f, g, l]] => some (true, I (szZ a b c d e f g l), [])
  | _ => none
def S64 {Ω : Type} : Spec Ω := conSpec [.g cfgK] FSize
theorem g64 : Good1 Try.prog 86 S64 := conGood Try.func86 (by kernel_rfl) c64 e64 mix (A := A64) fun l r hr hl hF => by
  obtain ⟨x, rfl, hx⟩ := lenAs_one hl
  obtain ⟨a, b, c, d, e, f, g, i, rfl⟩ := eight hx
  simp only [FSize, Option.some.injEq, Prod.mk.injEq, true_and] at hF
  obtain ⟨rfl, rfl⟩ := hF
  exact ⟨trivial, trivial, _, trim_none rfl _, v64 _ a b c d e f g i⟩
end Go.Sx.Pr

namespace Go.Sx.Pr
open Go Go.Sx Go.Proofs
set_option maxRecDepth 100000
/-- coatcheck/plan.New -/
def C63 : CF := ⟨1, [(2, some (8, true)), (3, none)],
 .seq (.reg false [⟨some 1, .box 26 8 (.t 0), none, 0⟩,
   ⟨some 2, .newc 75 [.d (.v (.int .i64 0)), .d (.v (.int .i64 0)), .d (.v (.int .i64 0)), .d (.v (.int .i64 0)), .d (.v (.int .i64 0)), .d (.v (.int .i64 0)), .d (.v (.int .i64 0)), .d (.v (.int .u64 0))], none, 0⟩,
   ⟨some 3, .mv (.c (.d (.v (.int .i64 0)))), none, 0⟩])
 (.seq (.seq (.reg false [⟨some 5, .ld 8 true (.t 1), none, 0⟩,
   ⟨some 6, .call (.c (.fn (.func 88) [] [])) [.t 5], none, 0⟩,
   ⟨some 4, .mv (.t 6), none, 0⟩])
 (.seq (.reg false [⟨some 7, .mv (.t 4), none, 0⟩,
   ⟨some 8, .eq .int true (.t 7) (.c (.d (.v (.int .i64 0)))), none, 0⟩])
 (.cond 8 (.seq (.reg false [⟨some 9, .bld [.d (.v (.int .i64 0)), .d (.v (.int .i64 0)), .d (.v (.int .i64 0)), .d (.v (.int .i64 0)), .d (.v (.int .i64 0)), .d (.v (.int .i64 0)), .d (.v (.int .i64 0)), .d (.v (.int .u64 0))] [], none, 0⟩,
     ⟨some 10, .mv (.t 4), none, 0⟩,
     ⟨none, .st 8 (.t 2) (.t 9), none, 0⟩,
     ⟨some 3, .mv (.t 10), none, 0⟩])
   (.ret))
   (.skip))))
 (.seq (.reg false [⟨some 11, .ld 8 true (.t 1), none, 0⟩,
   ⟨some 12, .bld [.d (.v (.int .i64 0)), .d (.v (.int .i64 0)), .d (.v (.int .i64 0)), .d (.v (.int .i64 0)), .d (.v (.int .i64 0)), .d (.v (.int .i64 0)), .d (.v (.int .i64 0)), .d (.v (.int .u64 0))] [(0, 8, .t 11)], none, 0⟩,
   ⟨none, .st 8 (.t 2) (.t 12), none, 0⟩,
   ⟨some 3, .mv (.c (.d (.v (.int .i64 0)))), none, 0⟩])
 (.ret)))⟩
theorem c63 : coF Try.prog Try.f85 = some C63 := by kernel_rfl
def A63 : Ann := { keep := [0, 1, 2, 3, 4, 8], live := [] }
def E63 {Ω : Type} : Env Ω := econs 88 S106 (enil)
theorem e63 : GoodE Try.prog E63 := GoodE.cons g106 (GoodE.nil)
def S63 {Ω : Type} : Spec Ω := inl E63 A63 C63 false
theorem g63 : Good1 Try.prog 85 S63 := Good1.inl e63 mix Try.func85 (by kernel_rfl) c63 A63 false
/-- coatcheck/pack.Head -/
def C109 : CF := ⟨2, [(4, none)],
 .seq (.reg false [⟨some 4, .mv (.c (.d (.v (.int .u64 0)))), none, 0⟩])
 (.seq (.reg false [⟨some 5, .mv (.t 1), none, 0⟩,
   ⟨some 6, .bin .shl (.t 5) (.c (.d (.v (.int .u64 32)))), none, 0⟩,
   ⟨some 7, .mv (.t 0), none, 0⟩,
   ⟨some 8, .bin .add (.t 7) (.c (.d (.v (.int .i64 1)))), none, 0⟩,
   ⟨some 9, .conv .u32 (.t 8), none, 0⟩,
   ⟨some 10, .conv .u64 (.t 9), none, 0⟩,
   ⟨some 11, .bin .or (.t 6) (.t 10), none, 0⟩,
   ⟨some 4, .mv (.t 11), none, 0⟩])
 (.ret))⟩
theorem c109 : coF Try.prog Try.f97 = some C109 := by kernel_rfl
def A109 : Ann := { keep := [0, 1, 4], live := [] }
def E109 {Ω : Type} : Env Ω := enil
theorem e109 : GoodE Try.prog E109 := GoodE.nil
def S109 {Ω : Type} : Spec Ω := inl E109 A109 C109 false
theorem g109 : Good1 Try.prog 97 S109 := Good1.inl e109 mix Try.func97 (by kernel_rfl) c109 A109 false
/-- coatcheck/pack.Entry -/
def C110 : CF := ⟨3, [(6, none)],
 .seq (.reg false [⟨some 6, .mv (.c (.d (.v (.int .u64 0)))), none, 0⟩])
 (.seq (.reg false [⟨some 7, .mv (.t 0), none, 0⟩,
   ⟨some 8, .bin .shl (.t 7) (.c (.d (.v (.int .u64 20)))), none, 0⟩,
   ⟨some 9, .mv (.t 1), none, 0⟩,
   ⟨some 10, .bin .add (.t 9) (.c (.d (.v (.int .i64 1)))), none, 0⟩,
   ⟨some 11, .conv .u16 (.t 10), none, 0⟩,
   ⟨some 12, .conv .u64 (.t 11), none, 0⟩,
   ⟨some 13, .bin .shl (.t 12) (.c (.d (.v (.int .u64 4)))), none, 0⟩,
   ⟨some 14, .bin .or (.t 8) (.t 13), none, 0⟩,
   ⟨some 15, .mv (.t 2), none, 0⟩,
   ⟨some 16, .conv .u8 (.t 15), none, 0⟩,
   ⟨some 17, .bin .shl (.t 16) (.c (.d (.v (.int .u64 4)))), none, 0⟩,
   ⟨some 18, .bin .shr (.t 17) (.c (.d (.v (.int .u64 4)))), none, 0⟩,
   ⟨some 19, .conv .u64 (.t 18), none, 0⟩,
   ⟨some 20, .bin .or (.t 14) (.t 19), none, 0⟩,
   ⟨some 6, .mv (.t 20), none, 0⟩])
 (.ret))⟩
theorem c110 : coF Try.prog Try.f74 = some C110 := by kernel_rfl
def A110 : Ann := { keep := [0, 1, 2, 6], live := [] }
def E110 {Ω : Type} : Env Ω := enil
theorem e110 : GoodE Try.prog E110 := GoodE.nil
def S110 {Ω : Type} : Spec Ω := inl E110 A110 C110 false
theorem g110 : Good1 Try.prog 74 S110 := Good1.inl e110 mix Try.func74 (by kernel_rfl) c110 A110 false
/-- (coatcheck/plan.Plan).at -/
def C122 : CF := ⟨5, [(10, none)],
 .seq (.reg false [⟨some 5, .box 75 8 (.t 0), none, 0⟩,
   ⟨some 10, .mv (.c (.d (.v (.int .i64 0)))), none, 0⟩])
 (.seq (.seq (.reg false [⟨some 11, .mv (.t 2), none, 0⟩,
   ⟨some 12, .bin .lss (.t 11) (.c (.d (.v (.int .i64 0)))), none, 0⟩,
   ⟨some 13, .mv (.t 12), none, 0⟩,
   ⟨some 14, .mv (.t 2), some (13, false), 0⟩,
   ⟨some 15, .mv (.t 3), some (13, false), 0⟩,
   ⟨some 16, .bin .geq (.t 14) (.t 15), some (13, false), 0⟩,
   ⟨some 17, .pick (.t 13) (.c (.d (.v (.bool true)))) (.t 16), none, 0⟩,
   ⟨some 18, .mv (.t 17), none, 0⟩,
   ⟨some 19, .fa 0 (.t 5), some (18, false), 0⟩,
   ⟨some 20, .ld 8 true (.t 19), some (18, false), 0⟩,
   ⟨some 21, .call (.c (.fn (.func 88) [] [])) [.t 20], some (18, false), 0⟩,
   ⟨some 22, .eq .int true (.t 21) (.c (.d (.v (.int .i64 0)))), some (18, false), 0⟩,
   ⟨some 23, .pick (.t 18) (.c (.d (.v (.bool true)))) (.t 22), none, 0⟩])
 (.cond 23 (.seq (.reg false [⟨some 10, .mv (.c (.d (.v (.int .i64 (-1))))), none, 0⟩])
   (.ret))
   (.skip)))
 (.seq (.reg false [⟨some 24, .mv (.t 1), none, 0⟩,
   ⟨some 25, .mv (.t 2), none, 0⟩,
   ⟨some 26, .mv (.t 4), none, 0⟩,
   ⟨some 27, .bin .mul (.t 25) (.t 26), none, 0⟩,
   ⟨some 28, .bin .add (.t 24) (.t 27), none, 0⟩,
   ⟨some 10, .mv (.t 28), none, 0⟩])
 (.ret)))⟩
theorem c122 : coF Try.prog Try.f89 = some C122 := by kernel_rfl
def A122 : Ann := { keep := [0, 1, 2, 3, 4, 5, 10, 23], live := [] }
def E122 {Ω : Type} : Env Ω := econs 88 S106 (enil)
theorem e122 : GoodE Try.prog E122 := GoodE.cons g106 (GoodE.nil)
def S122 {Ω : Type} : Spec Ω := inl E122 A122 C122 false
theorem g122 : Good1 Try.prog 89 S122 := Good1.inl e122 mix Try.func89 (by kernel_rfl) c122 A122 false
/-- (coatcheck/plan.Plan).Entry -/
def C111 : CF := ⟨2, [(4, none)],
 .seq (.reg false [⟨some 2, .box 75 8 (.t 0), none, 0⟩,
   ⟨some 4, .mv (.c (.d (.v (.int .i64 0)))), none, 0⟩])
 (.seq (.reg true [⟨some 5, .ld 8 true (.t 2), none, 0⟩,
   ⟨some 6, .ld 8 true (.t 2), none, 0⟩,
   ⟨some 7, .call (.c (.fn (.func 90) [] [])) [.t 6], none, 2⟩,
   ⟨some 8, .mv (.t 1), none, 0⟩,
   ⟨some 9, .fa 0 (.t 2), none, 0⟩,
   ⟨some 10, .fa 4 (.t 9), none, 16⟩,
   ⟨some 11, .ld 1 false (.t 10), none, 48⟩,
   ⟨some 12, .call (.c (.fn (.func 89) [] [])) [.t 5, .t 7, .t 8, .t 11, .c (.d (.v (.int .i64 2)))], none, 127⟩,
   ⟨some 4, .mv (.t 12), none, 255⟩])
 (.ret))⟩
theorem c111 : coF Try.prog Try.f39 = some C111 := by kernel_rfl
def A111 : Ann := { keep := [0, 1, 2, 4], live := [] }
def E111 {Ω : Type} : Env Ω := econs 89 S122 (econs 90 S127 (enil))
theorem e111 : GoodE Try.prog E111 := GoodE.cons g122 (GoodE.cons g127 (GoodE.nil))
def S111 {Ω : Type} : Spec Ω := inl E111 A111 C111 false
theorem g111 : Good1 Try.prog 39 S111 := Good1.inl e111 mix Try.func39 (by kernel_rfl) c111 A111 false
/-- (coatcheck/plan.Plan).EntryLink -/
def C112 : CF := ⟨2, [(4, none)],
 .seq (.reg false [⟨some 2, .box 75 8 (.t 0), none, 0⟩,
   ⟨some 4, .mv (.c (.d (.v (.int .i64 0)))), none, 0⟩])
 (.seq (.reg true [⟨some 5, .ld 8 true (.t 2), none, 0⟩,
   ⟨some 6, .ld 8 true (.t 2), none, 0⟩,
   ⟨some 7, .call (.c (.fn (.func 90) [] [])) [.t 6], none, 2⟩,
   ⟨some 8, .bin .add (.t 7) (.c (.d (.v (.int .i64 1)))), none, 6⟩,
   ⟨some 9, .mv (.t 1), none, 0⟩,
   ⟨some 10, .fa 0 (.t 2), none, 0⟩,
   ⟨some 11, .fa 4 (.t 10), none, 32⟩,
   ⟨some 12, .ld 1 false (.t 11), none, 96⟩,
   ⟨some 13, .call (.c (.fn (.func 89) [] [])) [.t 5, .t 8, .t 9, .t 12, .c (.d (.v (.int .i64 2)))], none, 255⟩,
   ⟨some 4, .mv (.t 13), none, 511⟩])
 (.ret))⟩
theorem c112 : coF Try.prog Try.f98 = some C112 := by kernel_rfl
def A112 : Ann := { keep := [0, 1, 2, 4], live := [] }
def E112 {Ω : Type} : Env Ω := econs 89 S122 (econs 90 S127 (enil))
theorem e112 : GoodE Try.prog E112 := GoodE.cons g122 (GoodE.cons g127 (GoodE.nil))
def S112 {Ω : Type} : Spec Ω := inl E112 A112 C112 false
theorem g112 : Good1 Try.prog 98 S112 := Good1.inl e112 mix Try.func98 (by kernel_rfl) c112 A112 false
def K68_1 : CC := .seq (.reg false [⟨some 47, .mv (.t 5), none, 0⟩,
   ⟨some 2, .mv (.t 47), none, 0⟩])
 (.ret)
def K68_2 : CC := .seq (.cond 25 (.skip)
   (.exit 0))
 (.seq (.block 1 (.seq (.reg false [⟨some 26, .mv (.t 24), none, 0⟩,
     ⟨some 6, .mv (.t 26), none, 0⟩])
   (.seq (.reg false [⟨some 27, .mv (.t 5), none, 0⟩,
     ⟨some 28, .ld 8 true (.t 3), none, 0⟩,
     ⟨some 29, .mv (.t 6), none, 0⟩,
     ⟨some 30, .call (.c (.fn (.func 39) [] [])) [.t 28, .t 29], none, 0⟩,
     ⟨some 31, .call (.c (.fn (.func 74) [] [])) [.c (.d (.v (.int .u64 1))), .c (.d (.v (.int .i64 (-1)))), .c (.d (.v (.int .i64 0)))], none, 0⟩,
     ⟨some 32, .ixs 1 (.t 27) (.t 30), none, 0⟩,
     ⟨none, .st 1 (.t 32) (.t 31), none, 0⟩])
   (.seq (.reg false [⟨some 33, .mv (.t 6), none, 0⟩,
     ⟨some 34, .bin .add (.t 33) (.c (.d (.v (.int .i64 1)))), none, 0⟩,
     ⟨some 35, .fa 4 (.t 1), none, 0⟩,
     ⟨some 36, .ld 1 false (.t 35), none, 0⟩,
     ⟨some 37, .bin .lss (.t 34) (.t 36), none, 0⟩])
   (.cond 37 (.reg false [⟨some 38, .mv (.t 5), none, 0⟩,
       ⟨some 39, .ld 8 true (.t 3), none, 0⟩,
       ⟨some 40, .mv (.t 6), none, 0⟩,
       ⟨some 41, .call (.c (.fn (.func 98) [] [])) [.t 39, .t 40], none, 0⟩,
       ⟨some 42, .mv (.t 6), none, 0⟩,
       ⟨some 43, .bin .add (.t 42) (.c (.d (.v (.int .i64 2)))), none, 0⟩,
       ⟨some 44, .conv .u64 (.t 43), none, 0⟩,
       ⟨some 45, .ixs 1 (.t 38) (.t 41), none, 0⟩,
       ⟨none, .st 1 (.t 45) (.t 44), none, 0⟩])
     (.skip))))))
 (.reg false [⟨some 46, .bin .add (.t 24) (.c (.d (.v (.int .i64 1)))), none, 0⟩,
   ⟨some 24, .mv (.t 46), none, 0⟩]))
def K68_3 : CC := .reg false [⟨some 25, .bin .lss (.t 24) (.t 23), none, 0⟩]
def L68_4 : CC := .seq K68_3 K68_2
def K68_5 : CC := .reg false [⟨some 22, .fa 4 (.t 1), none, 0⟩,
   ⟨some 23, .ld 1 false (.t 22), none, 0⟩,
   ⟨some 24, .mv (.c (.d (.v (.int .i64 0)))), none, 0⟩]
def K68_6 : CC := .reg false [⟨some 17, .mv (.t 5), none, 0⟩,
   ⟨some 18, .mv (.t 5), none, 0⟩,
   ⟨some 19, .call (.c (.fn (.func 97) [] [])) [.c (.d (.v (.int .i64 0))), .c (.d (.v (.int .u64 0)))], none, 0⟩,
   ⟨some 20, .ixs 1 (.t 17) (.c (.d (.v (.int .i64 0)))), none, 0⟩,
   ⟨none, .st 1 (.t 20) (.c (.d (.v (.int .u64 2)))), none, 0⟩,
   ⟨some 21, .ixs 1 (.t 18) (.c (.d (.v (.int .i64 2)))), none, 0⟩,
   ⟨none, .st 1 (.t 21) (.t 19), none, 0⟩]
def K68_7 : CC := .reg false [⟨some 14, .ld 8 true (.t 3), none, 0⟩,
   ⟨some 15, .call (.c (.fn (.func 86) [] [])) [.t 14], none, 0⟩,
   ⟨some 16, .mks 24 1 8 (some .u64) [.d (.v (.int .u64 0))] (.t 15), none, 0⟩,
   ⟨some 5, .mv (.t 16), none, 0⟩]
def K68_8 : CC := .seq (.reg false [⟨some 12, .mv (.t 4), none, 0⟩,
   ⟨some 13, .eq .int true (.t 12) (.c (.d (.v (.int .i64 0)))), none, 0⟩])
 (.cond 13 (.seq (.reg false [⟨some 2, .mv (.c (.d (.v (.slice none 0 0)))), none, 0⟩])
   (.ret))
   (.skip))
def K68_9 : CC := .reg false [⟨some 8, .ld 8 true (.t 1), none, 0⟩,
   ⟨some 9, .call (.c (.fn (.func 85) [] [])) [.t 8], none, 0⟩,
   ⟨some 7, .mv (.t 9), none, 0⟩,
   ⟨some 10, .ext 0 (.t 7), none, 0⟩,
   ⟨some 11, .ext 1 (.t 7), none, 0⟩,
   ⟨some 3, .newc 75 [.d (.v (.int .i64 0)), .d (.v (.int .i64 0)), .d (.v (.int .i64 0)), .d (.v (.int .i64 0)), .d (.v (.int .i64 0)), .d (.v (.int .i64 0)), .d (.v (.int .i64 0)), .d (.v (.int .u64 0))], none, 0⟩,
   ⟨none, .st 8 (.t 3) (.t 10), none, 0⟩,
   ⟨some 4, .mv (.t 11), none, 0⟩]
def K68_10 : CC := .reg false [⟨some 1, .box 26 8 (.t 0), none, 0⟩,
   ⟨some 2, .mv (.c (.d (.v (.slice none 0 0)))), none, 0⟩]
/-- coatcheck/plan.First -/
def C68 : CF := ⟨1, [(2, none)],
 .seq K68_10 (.seq K68_9 (.seq K68_8 (.seq K68_7 (.seq K68_6 (.seq (.seq K68_5 (.block 0 (.loop L68_4))) K68_1)))))⟩
theorem c68 : coF Try.prog Try.f50 = some C68 := by kernel_rfl
def A68 : Ann := { keep := [0, 1, 2, 3, 4, 5, 6, 13, 23, 24, 25, 37], live := [(0, [1, 3, 5, 23, 24])] }
def E68 {Ω : Type} : Env Ω := econs 85 S63 (econs 86 S64 (econs 97 S109 (econs 74 S110 (econs 39 S111 (econs 98 S112 (enil))))))
theorem e68 : GoodE Try.prog E68 := GoodE.cons g63 (GoodE.cons g64 (GoodE.cons g109 (GoodE.cons g110 (GoodE.cons g111 (GoodE.cons g112 (GoodE.nil))))))
def Z68_4 {Ω : Type} (it : Itr Ω) (K : SV → SH → Option Ω) : SE → SS → Option Ω := kblk 0 (kseq it E68 A68 K68_1 0 (kfn C68 K))
end Go.Sx.Pr

/- A law's arguments as symbolic values. -/
namespace Go.Sx

def getI : DV → Int
  | .v (.int _ x) => x
  | _ => 0

theorem cell_rep {fz : Nat → Prop} {w : World} {x : DV} {v : Value} (h : DRepL fz w [x] v.cells.toList) (hn : ∀ c, v ≠ .agg c) : DRep fz w x v := by
  have e : v.cells = #[v] := by
    cases v with
    | agg c => exact absurd rfl (hn c)
    | _ => rfl
  rw [e] at h
  simpa using h.2 0 (by simp)

end Go.Sx

/- Contracts with several outcomes; rows of which only what lies within counts. -/
namespace Go.Sx

def alts {Ω : Type} (k : SV → List Nat → List Nat → SH → Option Ω) (h : SH) : List (Bool × SV × SH) → Option Ω
  | [] => none
  | (g, r, hr) :: rest => br g (k (shft h.length r) [] [] (h ++ shftH h.length hr)) (alts k h rest)

def firstAlt : List (Bool × SV × SH) → Option (SV × SH)
  | [] => none
  | (g, r, hr) :: rest => bif g then some (r, hr) else firstAlt rest

def conSpecL (ts : List AT) (F : List (List Int) → List (Bool × SV × SH)) {Ω : Type} : Spec Ω := fun args h k =>
  match lendAs h ts args with
  | some l => alts k h (F l)
  | none => none

theorem alts_first {Ω : Type} {k : SV → List Nat → List Nat → SH → Option Ω} {h : SH} {out : Ω} : ∀ {L : List (Bool × SV × SH)}, alts k h L = some out → ∃ r hr, firstAlt L = some (r, hr) ∧ k (shft h.length r) [] [] (h ++ shftH h.length hr) = some out
  | [], e => by cases e
  | (g, r, hr) :: rest, e => by
    cases g with
    | true => exact ⟨r, hr, rfl, e⟩
    | false =>
      obtain ⟨r', hr', h1, h2⟩ := alts_first (L := rest) e
      exact ⟨r', hr', h1, h2⟩

theorem alts_of {Ω : Type} {k : SV → List Nat → List Nat → SH → Option Ω} {h : SH} : ∀ {L : List (Bool × SV × SH)} {r : SV} {hr : SH}, firstAlt L = some (r, hr) → alts k h L = k (shft h.length r) [] [] (h ++ shftH h.length hr)
  | [], r, hr, e => by cases e
  | (g, r', hr') :: rest, r, hr, e => by
    cases g with
    | true =>
      simp only [firstAlt, cond_true, Option.some.injEq, Prod.mk.injEq] at e
      obtain ⟨rfl, rfl⟩ := e
      rfl
    | false => exact alts_of (L := rest) e

theorem conL_par {ts : List AT} {F : List (List Int) → List (Bool × SV × SH)} {Ω Ω' : Type} : SpecPar (conSpecL ts F (Ω := Ω)) (conSpecL ts F (Ω := Ω')) := by
  intro args h k out hs
  unfold conSpecL at hs ⊢
  split at hs
  · rename_i l hl
    obtain ⟨r, hr, h1, h2⟩ := alts_first hs
    exact ⟨_, _, _, _, h2, fun k' => alts_of h1⟩
  · cases hs

/-- The same, but for what lies outside of a row. -/
def RowEqO (o o' : SO) : Prop := o = o' ∨ ∃ t sz n f f', o = .row t sz n f ∧ o' = .row t sz n f' ∧ ∀ i, i < n → ∀ j, j < sz → f i j = f' i j
def RowEq : SH → SH → Prop
  | [], [] => True
  | o :: r, o' :: r' => RowEqO o o' ∧ RowEq r r'
  | _, _ => False

theorem RowEq.refl : ∀ h : SH, RowEq h h
  | [] => trivial
  | _ :: r => ⟨.inl rfl, RowEq.refl r⟩
theorem RowEq.length : ∀ {h h' : SH}, RowEq h h' → h.length = h'.length
  | [], [], _ => rfl
  | _ :: r, _ :: r', e => by simp [RowEq.length e.2]
  | [], _ :: _, e => e.elim
  | _ :: _, [], e => e.elim
theorem RowEq.get : ∀ {h h' : SH}, RowEq h h' → ∀ l, RowEqO (hget h l) (hget h' l)
  | [], [], _, l => .inl rfl
  | _ :: r, _ :: r', e, 0 => by simpa [hget] using e.1
  | _ :: r, _ :: r', e, l + 1 => by simpa [hget] using RowEq.get e.2 l
  | [], _ :: _, e, _ => e.elim
  | _ :: _, [], e, _ => e.elim

theorem Gam.rowEq {cx : Cx} {h h' : SH} {w : World} (g : Gam cx h w) (e : RowEq h h') : Gam cx h' w := by
  have hlv : ∀ l, liv cx h' l → liv cx h l := fun l hl => by
    rcases e.get l with e1 | ⟨t, sz, n, f, f', e1, e2, _⟩
    · unfold liv at hl ⊢; rw [e1]; exact hl
    · unfold liv at hl ⊢; rw [e2] at hl; rw [e1]; exact hl
  refine ⟨by rw [← e.length]; exact g.n, fun l => ?_, fun l hl => g.lt l (hlv l hl), fun l hl => g.own l (hlv l hl), fun l m hl hm => g.inj l m (hlv l hl) (hlv m hm), g.fzlt, g.dj⟩
  have ho := g.obj l
  rcases e.get l with e1 | ⟨t, sz, n, f, f', e1, e2, e3⟩
  · rw [← e1]; exact ho
  · rw [e1] at ho
    rw [e2]
    simp only [ORep] at ho ⊢
    refine ⟨ho.1, ho.2.1, ho.2.2.1, ho.2.2.2.1, fun hn => ?_⟩
    obtain ⟨t', c', h1, h2, h3⟩ := ho.2.2.2.2 hn
    refine ⟨t', c', h1, h2, fun i hi j hj => ?_⟩
    obtain ⟨x, hx, hr⟩ := h3 i hi j hj
    exact ⟨x, hx, by rw [← e3 i hi j hj]; exact hr⟩

theorem conGoodL {P : Program} {g : Nat} {fn : Func} (hf : P.funcs[g]? = some fn) (hname : (fn.name == "runtime.NumGoroutine") = false) {C : CF} (hC : coF P fn = some C) {A : Ann} {e : {Ω : Type} → Env Ω} (he : GoodE P e) (hmix : P.follows .mixedOrders = true)
    {ts : List AT} {F : List (List Int) → List (Bool × SV × SH)}
    (hrun : ∀ l r hr, lenAs ts l → firstAlt (F l) = some (r, hr) → Flat r ∧ FlatH hr ∧ ∃ hr0 H, RowEq hr0 hr ∧ trim 0 r [] H = hr0 ∧ sxFn (e (Ω := SV × SH)) A C (encAs ts l) [] (fun r h => some (r, h)) = some (r, H)) :
    Good1 P g (fun {Ω} => conSpecL ts F (Ω := Ω)) := by
  have hbody : ∃ c, fn.body = some c := by
    unfold coF at hC
    split at hC
    · rename_i c hb; exact ⟨c, hb⟩
    · cases hC
  obtain ⟨c, hb⟩ := hbody
  have henter : ∀ (args : Array Value) (w : World), (callFunc g args).run P w = .ok (.enter g args) w := fun args w => by
    have h1 : fn.name ≠ "runtime.NumGoroutine" := by simpa using hname
    simp [callFunc, hf, h1, hb]
  refine ⟨fun Ω => ⟨henter, fun args h k out hs => ?_⟩, fun Ω Ω' => conL_par⟩
  unfold conSpecL at hs
  split at hs
  · rename_i l hl
    obtain ⟨r, hr, hF, hk⟩ := alts_first hs
    obtain ⟨f1, f2, hr0, H, heq, htr, hrun⟩ := hrun l r hr (lendAs_len hl) hF
    refine ⟨_, [], [], _, hk, ⟨by simp, fun l hl _ => by rw [hget_app, if_pos hl]⟩, fun cx w vals hg ha => ?_⟩
    refine (fn_calls (he.ok _) hmix hf hC hrun (cxA w) w vals (gamL w _) (lendAs_ok hg hl ha)).mono fun e w' ⟨v, cxq, e1, grq, hrq, hGq⟩ => ?_
    obtain ⟨cxs, hG, hr', hgrow⟩ := trim_sound (n0 := 0) (m := []) hGq hrq
    rw [htr] at hG
    have gr := hgrow (Nat.le_refl _) grq
    obtain ⟨k1, k2⟩ := join_flat hg gr (hG.rowEq heq) f2
    have nm : (fun l => nmem l []) = fun _ => false := funext fun l => by simp [nmem]
    rw [nm]
    exact ⟨v, _, e1, k2, by rw [← hg.n]; exact SRep.flat _ _ f1 hr', k1⟩
  · cases hs
end Go.Sx

/- Arguments of laws: a configuration, a list of words. -/
namespace Go.Sx.Pr
open Go Go.Sx Go.Proofs Go.ChangeShapes Go.WideShapes Go.ChangeAt Go.RowKit
set_option maxRecDepth 100000

theorem laid : laidOutB Try.prog = true := by kernel_rfl
theorem rowed : mapsRowed Try.prog = true := by kernel_rfl
theorem slicesFull : ∀ t e, t < Try.prog.types.size → Try.prog.underlying t = some (.slice e) → 0 < Try.prog.cellsOf e := slices_full_of Try.prog (by kernel_rfl)
theorem typesN : Nat.blt 100 Try.prog.types.size = true := by kernel_rfl
theorem tlt {t : Nat} (h : t ≤ 100) : t < Try.prog.types.size := by
  have := Nat.le_of_ble_eq_true typesN
  omega
/-- Words, as a test. -/
def u64B (ws : List Int) : Bool := ws.all fun v => decide (0 ≤ v) && decide (v ≤ 18446744073709551615)

section
variable {H : Type} {enc : TypeId × Value → H} {w : World}

end
end Go.Sx.Pr
