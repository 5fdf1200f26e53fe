/- Pieces of the code of functions, compiled for the symbolic interpreter, each checked against the program; no conditions. -/
import Derived.Test.YtpnnnklahanecaaSxFrame
import Derived.Test.YtpnnnklahanecaaRows
import Derived.KernelRfl
import Derived.Test.YtpnnnklahanecaaSxLoop
set_option linter.unusedVariables false
set_option linter.unusedSimpArgs false
namespace Go.Sx.Pr
open Go Go.Sx Go.Proofs
set_option maxRecDepth 100000
theorem mix : Try.prog.follows .mixedOrders = true := by kernel_rfl
def K106_1 : CC := .seq (.block 2 (.seq (.reg false [⟨some 45, .fa 7 (.t 1), none, 0⟩,
     ⟨some 46, .ld 1 false (.t 45), none, 0⟩,
     ⟨some 47, .bin .lss (.t 46) (.c (.d (.v (.int .u64 1)))), none, 0⟩,
     ⟨some 44, .mv (.t 47), none, 0⟩])
   (.cond 44 (.seq (.reg false [⟨some 2, .mv (.c (.d (.v (.int .i64 1)))), none, 0⟩])
     (.ret))
     (.seq (.reg false [⟨some 49, .fa 7 (.t 1), none, 0⟩,
       ⟨some 50, .ld 1 false (.t 49), none, 0⟩,
       ⟨some 51, .bin .gtr (.t 50) (.c (.d (.v (.int .u64 1048576)))), none, 0⟩,
       ⟨some 48, .mv (.t 51), none, 0⟩])
     (.cond 48 (.seq (.reg false [⟨some 2, .mv (.c (.d (.v (.int .i64 2)))), none, 0⟩])
       (.ret))
       (.skip))))))
 (.seq (.reg false [⟨some 52, .mv (.t 4), none, 0⟩,
   ⟨some 2, .mv (.t 52), none, 0⟩])
 (.ret))
def L106_2 : CC := .seq (.reg false [⟨some 31, .bin .lss (.t 30) (.c (.d (.v (.int .i64 7)))), none, 0⟩])
 (.seq (.cond 31 (.skip)
   (.exit 0))
 (.seq (.block 1 (.seq (.reg false [⟨some 32, .ixg 7 3 true (.t 29) (.t 30), none, 0⟩,
     ⟨some 6, .newc 160 [.d (.v (.int .i64 0)), .d (.v (.int .i64 0)), .d (.v (.int .i64 0))], none, 0⟩,
     ⟨none, .st 3 (.t 6) (.t 32), none, 0⟩])
   (.seq (.seq (.reg false [⟨some 33, .fa 0 (.t 6), none, 0⟩,
     ⟨some 34, .ld 1 false (.t 33), none, 0⟩,
     ⟨some 35, .fa 1 (.t 6), none, 0⟩,
     ⟨some 36, .ld 1 false (.t 35), none, 0⟩,
     ⟨some 37, .bin .lss (.t 34) (.t 36), none, 0⟩])
   (.cond 37 (.seq (.reg false [⟨some 2, .mv (.c (.d (.v (.int .i64 1)))), none, 0⟩])
     (.ret))
     (.skip)))
   (.seq (.reg false [⟨some 38, .fa 0 (.t 6), none, 0⟩,
     ⟨some 39, .ld 1 false (.t 38), none, 0⟩,
     ⟨some 40, .fa 2 (.t 6), none, 0⟩,
     ⟨some 41, .ld 1 false (.t 40), none, 0⟩,
     ⟨some 42, .bin .gtr (.t 39) (.t 41), none, 0⟩])
   (.cond 42 (.reg false [⟨some 4, .mv (.c (.d (.v (.int .i64 2)))), none, 0⟩])
     (.skip))))))
 (.reg false [⟨some 43, .bin .add (.t 30) (.c (.d (.v (.int .i64 1)))), none, 0⟩,
   ⟨some 30, .mv (.t 43), none, 0⟩])))
def K106_3 : CC := .reg false [⟨some 29, .ld 21 true (.t 3), none, 0⟩,
   ⟨some 30, .mv (.c (.d (.v (.int .i64 0)))), none, 0⟩]
def K106_4 : CC := .reg false [⟨some 4, .mv (.c (.d (.v (.int .i64 0)))), none, 0⟩]
def K106_5 : CC := .reg false [⟨some 7, .fa 0 (.t 1), none, 0⟩,
   ⟨some 8, .ld 1 false (.t 7), none, 0⟩,
   ⟨some 9, .bld [.d (.v (.int .i64 0)), .d (.v (.int .i64 0)), .d (.v (.int .i64 0))] [(0, 1, .t 8), (1, 1, .c (.d (.v (.int .i64 1)))), (2, 1, .c (.d (.v (.int .i64 8))))], none, 0⟩,
   ⟨some 10, .fa 1 (.t 1), none, 0⟩,
   ⟨some 11, .ld 1 false (.t 10), none, 0⟩,
   ⟨some 12, .bld [.d (.v (.int .i64 0)), .d (.v (.int .i64 0)), .d (.v (.int .i64 0))] [(0, 1, .t 11), (1, 1, .c (.d (.v (.int .i64 1)))), (2, 1, .c (.d (.v (.int .i64 8))))], none, 0⟩,
   ⟨some 13, .fa 2 (.t 1), none, 0⟩,
   ⟨some 14, .ld 1 false (.t 13), none, 0⟩,
   ⟨some 15, .bld [.d (.v (.int .i64 0)), .d (.v (.int .i64 0)), .d (.v (.int .i64 0))] [(0, 1, .t 14), (1, 1, .c (.d (.v (.int .i64 1)))), (2, 1, .c (.d (.v (.int .i64 16))))], none, 0⟩,
   ⟨some 16, .fa 3 (.t 1), none, 0⟩,
   ⟨some 17, .ld 1 false (.t 16), none, 0⟩,
   ⟨some 18, .bld [.d (.v (.int .i64 0)), .d (.v (.int .i64 0)), .d (.v (.int .i64 0))] [(0, 1, .t 17), (1, 1, .c (.d (.v (.int .i64 1)))), (2, 1, .c (.d (.v (.int .i64 4))))], none, 0⟩,
   ⟨some 19, .fa 4 (.t 1), none, 0⟩,
   ⟨some 20, .ld 1 false (.t 19), none, 0⟩,
   ⟨some 21, .bld [.d (.v (.int .i64 0)), .d (.v (.int .i64 0)), .d (.v (.int .i64 0))] [(0, 1, .t 20), (1, 1, .c (.d (.v (.int .i64 1)))), (2, 1, .c (.d (.v (.int .i64 32))))], none, 0⟩,
   ⟨some 22, .fa 5 (.t 1), none, 0⟩,
   ⟨some 23, .ld 1 false (.t 22), none, 0⟩,
   ⟨some 24, .bld [.d (.v (.int .i64 0)), .d (.v (.int .i64 0)), .d (.v (.int .i64 0))] [(0, 1, .t 23), (1, 1, .c (.d (.v (.int .i64 0)))), (2, 1, .c (.d (.v (.int .i64 4))))], none, 0⟩,
   ⟨some 25, .fa 6 (.t 1), none, 0⟩,
   ⟨some 26, .ld 1 false (.t 25), none, 0⟩,
   ⟨some 27, .bld [.d (.v (.int .i64 0)), .d (.v (.int .i64 0)), .d (.v (.int .i64 0))] [(0, 1, .t 26), (1, 1, .c (.d (.v (.int .i64 1)))), (2, 1, .c (.d (.v (.int .i64 8))))], none, 0⟩,
   ⟨some 28, .bld [.d (.v (.int .i64 0)), .d (.v (.int .i64 0)), .d (.v (.int .i64 0)), .d (.v (.int .i64 0)), .d (.v (.int .i64 0)), .d (.v (.int .i64 0)), .d (.v (.int .i64 0)), .d (.v (.int .i64 0)), .d (.v (.int .i64 0)), .d (.v (.int .i64 0)), .d (.v (.int .i64 0)), .d (.v (.int .i64 0)), .d (.v (.int .i64 0)), .d (.v (.int .i64 0)), .d (.v (.int .i64 0)), .d (.v (.int .i64 0)), .d (.v (.int .i64 0)), .d (.v (.int .i64 0)), .d (.v (.int .i64 0)), .d (.v (.int .i64 0)), .d (.v (.int .i64 0))] [(0, 3, .t 9), (3, 3, .t 12), (6, 3, .t 15), (9, 3, .t 18), (12, 3, .t 21), (15, 3, .t 24), (18, 3, .t 27)], none, 0⟩,
   ⟨some 3, .newc 161 [.d (.v (.int .i64 0)), .d (.v (.int .i64 0)), .d (.v (.int .i64 0)), .d (.v (.int .i64 0)), .d (.v (.int .i64 0)), .d (.v (.int .i64 0)), .d (.v (.int .i64 0)), .d (.v (.int .i64 0)), .d (.v (.int .i64 0)), .d (.v (.int .i64 0)), .d (.v (.int .i64 0)), .d (.v (.int .i64 0)), .d (.v (.int .i64 0)), .d (.v (.int .i64 0)), .d (.v (.int .i64 0)), .d (.v (.int .i64 0)), .d (.v (.int .i64 0)), .d (.v (.int .i64 0)), .d (.v (.int .i64 0)), .d (.v (.int .i64 0)), .d (.v (.int .i64 0))], none, 0⟩,
   ⟨none, .st 21 (.t 3) (.t 28), none, 0⟩]
def K106_6 : CC := .reg false [⟨some 1, .box 24 8 (.t 0), none, 0⟩,
   ⟨some 2, .mv (.c (.d (.v (.int .i64 0)))), none, 0⟩]
/-- coatcheck/plan.Check -/
def C106 : CF := ⟨1, [(2, none)],
 .seq K106_6 (.seq K106_5 (.seq K106_4 (.seq (.seq K106_3 (.block 0 (.loop L106_2))) K106_1)))⟩
theorem c106 : coF Try.prog Try.f106 = some C106 := by kernel_rfl
def A106 : Ann := { keep := [0, 1, 2, 3, 4, 6, 29, 30, 31, 37, 42, 44, 48], live := [(0, [1, 4, 29, 30])] }
def E106 {Ω : Type} : Env Ω := enil
theorem e106 : GoodE Try.prog E106 := GoodE.nil
def Z106_2 {Ω : Type} (it : Itr Ω) (K : SV → SH → Option Ω) : SE → SS → Option Ω := kblk 0 (kseq it E106 A106 K106_1 0 (kfn C106 K))
/-- slices.Clone[[]uint64,uint64] -/
def C65 : CF := ⟨1, [(2, none)],
 .seq (.reg false [⟨some 2, .mv (.c (.d (.v (.slice none 0 0)))), none, 0⟩])
 (.seq (.seq (.reg false [⟨some 3, .mv (.t 0), none, 0⟩,
   ⟨some 4, .eq .slc false (.t 3) (.c (.d (.v (.slice none 0 0)))), none, 0⟩])
 (.cond 4 (.seq (.reg false [⟨some 2, .mv (.c (.d (.v (.slice none 0 0)))), none, 0⟩])
   (.ret))
   (.skip)))
 (.seq (.reg false [⟨some 5, .bsl 22 1 0 [.d (.v (.int .u64 0))] [], none, 0⟩,
   ⟨some 6, .mv (.t 0), none, 0⟩,
   ⟨some 7, .app 22 1 8 (some .u64) (.t 5) (.t 6), none, 0⟩,
   ⟨some 2, .mv (.t 7), none, 0⟩])
 (.ret)))⟩
theorem c65 : coF Try.prog Try.f65 = some C65 := by kernel_rfl
def A65 : Ann := { keep := [0, 2, 4], live := [] }
def E65 {Ω : Type} : Env Ω := enil
theorem e65 : GoodE Try.prog E65 := GoodE.nil
end Go.Sx.Pr

/- Contracts of the functions with loops: both checks of a configuration, the layout's list, equality of lists, clone. -/
namespace Go.Sx.Pr
open Go Go.Sx Go.Proofs
set_option maxRecDepth 100000

abbrev cfgK : List IntKind := [.i64, .i64, .i64, .i64, .i64, .i64, .i64, .u64]
abbrev CFG (a b c d e f g l : Int) : SO := .cells 24 [I a, I b, I c, I d, I e, I f, I g, U l]
abbrev cfgS (a b c d e f g l : Int) : SV := .agg [I a, I b, I c, I d, I e, I f, I g, U l]

/-- Check: workers a, slabs b, blocks c, words d, entries e, rack f, bag g, last l. -/
def chk (a b c d e f g l : Int) : Int :=
  bif decide (a < 1) || (decide (b < 1) || (decide (c < 1) || (decide (d < 1) || (decide (e < 1) || (decide (g < 1) || (decide (f < 0) || decide (l < 1))))))) then 1 else
  bif decide (a > 8) || (decide (b > 8) || (decide (c > 16) || (decide (d > 4) || (decide (e > 32) || (decide (g > 8) || (decide (f > 4) || decide (l > 1048576))))))) then 2 else 0

theorem chk_zero {a b c d e f g l : Int} (h : chk a b c d e f g l = 0) : (1 ≤ a ∧ a ≤ 8) ∧ (1 ≤ b ∧ b ≤ 8) ∧ (1 ≤ c ∧ c ≤ 16) ∧ (1 ≤ d ∧ d ≤ 4) ∧ (1 ≤ e ∧ e ≤ 32) ∧ (0 ≤ f ∧ f ≤ 4) ∧ (1 ≤ g ∧ g ≤ 8) ∧ (1 ≤ l ∧ l ≤ 1048576) := by
  unfold chk at h
  rw [cond_eq_ite, cond_eq_ite] at h
  split at h
  · cases h
  · split at h
    · cases h
    · rename_i h1 h2
      simp only [Bool.or_eq_true, decide_eq_true_eq, not_or] at h1 h2
      omega

def FChk : List (List Int) → Option (Bool × SV × SH)
  | [[a, b, c, d, e, f, g, l]] => some (true, I (chk a b c d e f g l), [])
  | _ => none

theorem or_cond {α : Type} (a b : Bool) (x y : α) : (bif a || b then x else y) = bif a then x else bif b then x else y := by cases a <;> rfl

theorem lenAs_one {l : List (List Int)} {ks : List IntKind} (h : lenAs [.g ks] l) : ∃ a, l = [a] ∧ a.length = ks.length := by
  obtain ⟨a, r, rfl, h1, h2⟩ := h
  simp only [lenAs] at h2
  subst h2
  exact ⟨a, rfl, h1⟩

theorem eight {α : Type} {l : List α} (h : l.length = 8) : ∃ a b c d e f g i, l = [a, b, c, d, e, f, g, i] := by
  match l, h with
  | [a, b, c, d, e, f, g, i], _ => exact ⟨a, b, c, d, e, f, g, i, rfl⟩

def S19 {Ω : Type} : Spec Ω := conSpec [.g cfgK] FChk
/-! ### plan.Check -/
abbrev ARR (a b c d e f g : Int) : List SV := [I a, I 1, I 8, I b, I 1, I 8, I c, I 1, I 16, I d, I 1, I 4, I e, I 1, I 32, I f, I 0, I 4, I g, I 1, I 8]
abbrev S106s (x i a b c d e f g l : Int) : SS := ⟨[(1, .ptr 0 0), (4, I x), (29, .agg (ARR a b c d e f g)), (30, I i)], [CFG a b c d e f g l, .cells 161 (ARR a b c d e f g)]⟩

section
variable {Ω : Type} (it : Itr Ω) (IT : SS → Option Ω) (K : SV → SH → Option Ω) (x a b c d e f g l : Int)
theorem r106 : sxFnI it E106 A106 C106 [cfgS a b c d e f g l] [] K = it [1, 4, 29, 30] 2 (sxI it E106 A106 L106_2 0) (S106s 0 0 a b c d e f g l) (Z106_2 it K) := by kernel_rfl
theorem r106_0 : sxI it E106 A106 L106_2 0 (S106s x 0 a b c d e f g l) (kitV [1, 4, 29, 30] 2 IT (Z106_2 it K)) =
    br (decide (a < 1)) (K (I 1) [CFG a b c d e f g l, .cells 161 (ARR a b c d e f g), .cells 160 [I a, I 1, I 8]]) (br (decide (a > 8)) (IT (S106s 2 1 a b c d e f g l)) (IT (S106s x 1 a b c d e f g l))) := by kernel_rfl
theorem r106_1 : sxI it E106 A106 L106_2 0 (S106s x 1 a b c d e f g l) (kitV [1, 4, 29, 30] 2 IT (Z106_2 it K)) =
    br (decide (b < 1)) (K (I 1) [CFG a b c d e f g l, .cells 161 (ARR a b c d e f g), .cells 160 [I b, I 1, I 8]]) (br (decide (b > 8)) (IT (S106s 2 2 a b c d e f g l)) (IT (S106s x 2 a b c d e f g l))) := by kernel_rfl
theorem r106_2 : sxI it E106 A106 L106_2 0 (S106s x 2 a b c d e f g l) (kitV [1, 4, 29, 30] 2 IT (Z106_2 it K)) =
    br (decide (c < 1)) (K (I 1) [CFG a b c d e f g l, .cells 161 (ARR a b c d e f g), .cells 160 [I c, I 1, I 16]]) (br (decide (c > 16)) (IT (S106s 2 3 a b c d e f g l)) (IT (S106s x 3 a b c d e f g l))) := by kernel_rfl
theorem r106_3 : sxI it E106 A106 L106_2 0 (S106s x 3 a b c d e f g l) (kitV [1, 4, 29, 30] 2 IT (Z106_2 it K)) =
    br (decide (d < 1)) (K (I 1) [CFG a b c d e f g l, .cells 161 (ARR a b c d e f g), .cells 160 [I d, I 1, I 4]]) (br (decide (d > 4)) (IT (S106s 2 4 a b c d e f g l)) (IT (S106s x 4 a b c d e f g l))) := by kernel_rfl
theorem r106_4 : sxI it E106 A106 L106_2 0 (S106s x 4 a b c d e f g l) (kitV [1, 4, 29, 30] 2 IT (Z106_2 it K)) =
    br (decide (e < 1)) (K (I 1) [CFG a b c d e f g l, .cells 161 (ARR a b c d e f g), .cells 160 [I e, I 1, I 32]]) (br (decide (e > 32)) (IT (S106s 2 5 a b c d e f g l)) (IT (S106s x 5 a b c d e f g l))) := by kernel_rfl
theorem r106_5 : sxI it E106 A106 L106_2 0 (S106s x 5 a b c d e f g l) (kitV [1, 4, 29, 30] 2 IT (Z106_2 it K)) =
    br (decide (f < 0)) (K (I 1) [CFG a b c d e f g l, .cells 161 (ARR a b c d e f g), .cells 160 [I f, I 0, I 4]]) (br (decide (f > 4)) (IT (S106s 2 6 a b c d e f g l)) (IT (S106s x 6 a b c d e f g l))) := by kernel_rfl
theorem r106_6 : sxI it E106 A106 L106_2 0 (S106s x 6 a b c d e f g l) (kitV [1, 4, 29, 30] 2 IT (Z106_2 it K)) =
    br (decide (g < 1)) (K (I 1) [CFG a b c d e f g l, .cells 161 (ARR a b c d e f g), .cells 160 [I g, I 1, I 8]]) (br (decide (g > 8)) (IT (S106s 2 7 a b c d e f g l)) (IT (S106s x 7 a b c d e f g l))) := by kernel_rfl
theorem r106_7 : sxI it E106 A106 L106_2 0 (S106s x 7 a b c d e f g l) (kitV [1, 4, 29, 30] 2 IT (Z106_2 it K)) =
    br (decide (l < 1)) (K (I 1) [CFG a b c d e f g l, .cells 161 (ARR a b c d e f g)]) (br (decide (l > 1048576)) (K (I 2) [CFG a b c d e f g l, .cells 161 (ARR a b c d e f g)]) (K (I x) [CFG a b c d e f g l, .cells 161 (ARR a b c d e f g)])) := by kernel_rfl
end

abbrev IT106 (n : Nat) (x j a b c d e f g l : Int) : Option (SV × SH) := iter [1, 4, 29, 30] 2 (sxI itB E106 A106 L106_2 0) n (S106s x j a b c d e f g l) (Z106_2 itB fun r h => some (r, h))

theorem round106 {X : Option (SV × SH)} {Y : Int → Option (SV × SH)} {w : Int → Int} {p q : Bool} {x : Int} (h1 : ∃ H, X = some (I 1, H)) (hY : ∀ x, ∃ H, Y x = some (I (w x), H)) : ∃ H, br p X (br q (Y 2) (Y x)) = some (I (bif p then 1 else w (bif q then 2 else x)), H) := by
  cases p with
  | true => exact h1
  | false =>
    cases q with
    | true => exact hY 2
    | false => exact hY x

theorem last106 {p q : Bool} {x : Int} {H1 H2 H3 : SH} : ∃ H, br p (some (I 1, H1)) (br q (some (I 2, H2)) (some (I x, H3))) = some (I (bif p then 1 else bif q then 2 else x), H) := by
  cases p with
  | true => exact ⟨_, rfl⟩
  | false =>
    cases q with
    | true => exact ⟨_, rfl⟩
    | false => exact ⟨_, rfl⟩

def w7 (l x : Int) : Int := bif decide (l < 1) then 1 else bif decide (l > 1048576) then 2 else x
def w6 (g l x : Int) : Int := bif decide (g < 1) then 1 else w7 l (bif decide (g > 8) then 2 else x)
def w5 (f g l x : Int) : Int := bif decide (f < 0) then 1 else w6 g l (bif decide (f > 4) then 2 else x)
def w4 (e f g l x : Int) : Int := bif decide (e < 1) then 1 else w5 f g l (bif decide (e > 32) then 2 else x)
def w3 (d e f g l x : Int) : Int := bif decide (d < 1) then 1 else w4 e f g l (bif decide (d > 4) then 2 else x)
def w2 (c d e f g l x : Int) : Int := bif decide (c < 1) then 1 else w3 d e f g l (bif decide (c > 16) then 2 else x)
def w1 (b c d e f g l x : Int) : Int := bif decide (b < 1) then 1 else w2 c d e f g l (bif decide (b > 8) then 2 else x)
def w0 (a b c d e f g l x : Int) : Int := bif decide (a < 1) then 1 else w1 b c d e f g l (bif decide (a > 8) then 2 else x)

theorem v106 (a b c d e f g l : Int) : ∃ H, sxFn E106 A106 C106 [cfgS a b c d e f g l] [] (fun r h => some (r, h)) = some (I (chk a b c d e f g l), H) := by
  have h7 : ∀ n x, ∃ H, IT106 (n + 1) x 7 a b c d e f g l = some (I (w7 l x), H) := fun n x => by
    unfold IT106
    rw [iter_succ, r106_7]
    exact last106
  have h6 : ∀ n x, ∃ H, IT106 (n + 2) x 6 a b c d e f g l = some (I (w6 g l x), H) := fun n x => by
    unfold IT106
    rw [iter_succ, r106_6]
    exact round106 (Y := fun x => IT106 (n + 1) x 7 a b c d e f g l) ⟨_, rfl⟩ (h7 n)
  have h5 : ∀ n x, ∃ H, IT106 (n + 3) x 5 a b c d e f g l = some (I (w5 f g l x), H) := fun n x => by
    unfold IT106
    rw [iter_succ, r106_5]
    exact round106 (Y := fun x => IT106 (n + 2) x 6 a b c d e f g l) ⟨_, rfl⟩ (h6 n)
  have h4 : ∀ n x, ∃ H, IT106 (n + 4) x 4 a b c d e f g l = some (I (w4 e f g l x), H) := fun n x => by
    unfold IT106
    rw [iter_succ, r106_4]
    exact round106 (Y := fun x => IT106 (n + 3) x 5 a b c d e f g l) ⟨_, rfl⟩ (h5 n)
  have h3 : ∀ n x, ∃ H, IT106 (n + 5) x 3 a b c d e f g l = some (I (w3 d e f g l x), H) := fun n x => by
    unfold IT106
    rw [iter_succ, r106_3]
    exact round106 (Y := fun x => IT106 (n + 4) x 4 a b c d e f g l) ⟨_, rfl⟩ (h4 n)
  have h2 : ∀ n x, ∃ H, IT106 (n + 6) x 2 a b c d e f g l = some (I (w2 c d e f g l x), H) := fun n x => by
    unfold IT106
    rw [iter_succ, r106_2]
    exact round106 (Y := fun x => IT106 (n + 5) x 3 a b c d e f g l) ⟨_, rfl⟩ (h3 n)
  have h1 : ∀ n x, ∃ H, IT106 (n + 7) x 1 a b c d e f g l = some (I (w1 b c d e f g l x), H) := fun n x => by
    unfold IT106
    rw [iter_succ, r106_1]
    exact round106 (Y := fun x => IT106 (n + 6) x 2 a b c d e f g l) ⟨_, rfl⟩ (h2 n)
  have h0 : ∀ n x, ∃ H, IT106 (n + 8) x 0 a b c d e f g l = some (I (w0 a b c d e f g l x), H) := fun n x => by
    unfold IT106
    rw [iter_succ, r106_0]
    exact round106 (Y := fun x => IT106 (n + 7) x 1 a b c d e f g l) ⟨_, rfl⟩ (h1 n)
  obtain ⟨H, hH⟩ := h0 999999999992 0
  refine ⟨H, ?_⟩
  rw [← sxFnI_eq, r106]
  have e1 : w0 a b c d e f g l 0 = chk a b c d e f g l := by
    simp only [w0, w1, w2, w3, w4, w5, w6, w7, chk, or_cond]
    generalize decide (a < 1) = p0
    generalize decide (b < 1) = p1
    generalize decide (c < 1) = p2
    generalize decide (d < 1) = p3
    generalize decide (e < 1) = p4
    generalize decide (f < 0) = p5
    generalize decide (g < 1) = p6
    generalize decide (l < 1) = p7
    generalize decide (a > 8) = q0
    generalize decide (b > 8) = q1
    generalize decide (c > 16) = q2
    generalize decide (d > 4) = q3
    generalize decide (e > 32) = q4
    generalize decide (f > 4) = q5
    generalize decide (g > 8) = q6
    generalize decide (l > 1048576) = q7
    clear h0 h1 h2 h3 h4 h5 h6 h7 hH
    cases p0 <;> simp only [cond_true, cond_false]
    cases p1 <;> simp only [cond_true, cond_false]
    cases p2 <;> simp only [cond_true, cond_false]
    cases p3 <;> simp only [cond_true, cond_false]
    cases p4 <;> simp only [cond_true, cond_false]
    cases p5 <;> cases p6 <;> cases p7 <;> simp only [cond_true, cond_false]
    cases q7 <;> simp only [cond_true, cond_false]
    · revert q0 q1 q2 q3 q4 q5 q6; decide
    · revert q0 q1 q2 q3 q4 q5 q6; decide
  rw [e1] at hH
  exact hH

def S106 {Ω : Type} : Spec Ω := conSpec [.g cfgK] FChk
theorem g106 : Good1 Try.prog 106 S106 := conGood Try.func106 (by kernel_rfl) c106 e106 mix (A := A106) fun l r hr hl hF => by
  obtain ⟨x, rfl, hx⟩ := lenAs_one hl
  obtain ⟨a, b, c, d, e, f, g, i, rfl⟩ := eight hx
  simp only [FChk, Option.some.injEq, Prod.mk.injEq, true_and] at hF
  obtain ⟨rfl, rfl⟩ := hF
  obtain ⟨H, hH⟩ := v106 a b c d e f g i
  exact ⟨trivial, trivial, H, trim_none rfl _, hH⟩
end Go.Sx.Pr

/- Contracts: equality of lists of words, clone, the layout's list. -/
namespace Go.Sx.Pr
open Go Go.Sx Go.Proofs
set_option maxRecDepth 100000

/-! ### ref02.Same -/
section
variable {Ω : Type} (it : Itr Ω) (IT : SS → Option Ω) (K : SV → SH → Option Ω) (xs ys : List Int) (i : Int)
end

/-! ### slices.Clone -/
def S65 {Ω : Type} : Spec Ω := sClone .u64 22 8
theorem g65 : Good1 Try.prog 65 S65 := clone_good Try.func65 (by kernel_rfl) c65 (A := A65) e65 mix
  (fun cc => by kernel_rfl)
  (fun a c => ⟨[.dead, .rowi 22 .u64 []], 1, by kernel_rfl, rfl⟩)
  (fun x r => ⟨[.dead, .rowi 22 .u64 (x :: r)], 1, by
    have : sxFn E65 A65 C65 [.d (.ints .u64 (x :: r))] [] (fun r h => some (r, h)) = br (fits (0 + List.length (x :: r)) 8) (some (.own 1, [.dead, .rowi 22 .u64 (x :: r)])) none := by kernel_rfl
    rw [this]
    simp, rfl⟩)
end Go.Sx.Pr

/- Contract: the layout's list. -/
namespace Go.Sx.Pr
open Go Go.Sx Go.Proofs
set_option maxRecDepth 100000

abbrev dI (x : Int) : DV := .v (.int .i64 x)
def ap (l : List DV) : Nat → Nat → DV := fun i j => lkD l (i * 3 + j)
section
variable {Ω : Type} (it : Itr Ω) (IT : SS → Option Ω) (K : SV → SH → Option Ω) (KK : SE → SS → Option Ω) (a b c d e f g l : Int) (i j : Int) (m : Nat) (q : Nat → Nat → DV)
end

def d1 (i : Nat) : List DV := [dI 1, dI i, dI 0]
def d2 (i : Nat) : List DV := [dI 2, dI i, dI 0]
def d3 (i : Nat) : List DV := [dI 3, dI i, dI 0, dI 4, dI i, dI 0]
section
variable {Ω : Type} (K : SV → SH → Option Ω) (KK : SE → SS → Option Ω) (a b c d e f g l : Int) (q : Nat → Nat → DV)

end

/-- How many words there are. -/
def sizeN (A Bn Cn D E : Nat) : Nat := 3 + 1 * A + 1 * Bn + 2 * E + (1 + D) * (Bn * Cn)
end Go.Sx.Pr

namespace Go.Sx.Pr
open Go Go.Sx Go.Proofs
set_option maxRecDepth 100000
/-- (coatcheck/plan.Plan).slabs -/
def C125 : CF := ⟨1, [(2, none)],
 .seq (.reg false [⟨some 1, .box 49 8 (.t 0), none, 0⟩,
   ⟨some 2, .mv (.c (.d (.v (.int .i64 0)))), none, 0⟩])
 (.seq (.reg false [⟨some 3, .fa 0 (.t 1), none, 0⟩,
   ⟨some 4, .fa 0 (.t 3), none, 0⟩,
   ⟨some 5, .ld 1 false (.t 4), none, 0⟩,
   ⟨some 6, .bin .add (.c (.d (.v (.int .i64 3)))) (.t 5), none, 0⟩,
   ⟨some 2, .mv (.t 6), none, 0⟩])
 (.ret))⟩
theorem c125 : coF Try.prog Try.f125 = some C125 := by kernel_rfl
def A125 : Ann := { keep := [0, 1, 2], live := [] }
def E125 {Ω : Type} : Env Ω := enil
theorem e125 : GoodE Try.prog E125 := GoodE.nil
def S125 {Ω : Type} : Spec Ω := inl E125 A125 C125 false
theorem g125 : Good1 Try.prog 125 S125 := Good1.inl e125 mix Try.func125 (by kernel_rfl) c125 A125 false
/-- (coatcheck/plan.Plan).entries -/
def C127 : CF := ⟨1, [(2, none)],
 .seq (.reg false [⟨some 1, .box 49 8 (.t 0), none, 0⟩,
   ⟨some 2, .mv (.c (.d (.v (.int .i64 0)))), none, 0⟩])
 (.seq (.reg true [⟨some 3, .ld 8 true (.t 1), none, 0⟩,
   ⟨some 4, .call (.c (.fn (.func 125) [] [])) [.t 3], none, 1⟩,
   ⟨some 5, .fa 0 (.t 1), none, 0⟩,
   ⟨some 6, .fa 1 (.t 5), none, 4⟩,
   ⟨some 7, .ld 1 false (.t 6), none, 12⟩,
   ⟨some 8, .bin .add (.t 4) (.t 7), none, 31⟩,
   ⟨some 2, .mv (.t 8), none, 63⟩])
 (.ret))⟩
theorem c127 : coF Try.prog Try.f127 = some C127 := by kernel_rfl
def A127 : Ann := { keep := [0, 1, 2], live := [] }
def E127 {Ω : Type} : Env Ω := econs 125 S125 (enil)
theorem e127 : GoodE Try.prog E127 := GoodE.cons g125 (GoodE.nil)
def S127 {Ω : Type} : Spec Ω := inl E127 A127 C127 false
theorem g127 : Good1 Try.prog 127 S127 := Good1.inl e127 mix Try.func127 (by kernel_rfl) c127 A127 false
/-- (coatcheck/plan.Plan).blocks -/
def C107 : CF := ⟨1, [(2, none)],
 .seq (.reg false [⟨some 1, .box 49 8 (.t 0), none, 0⟩,
   ⟨some 2, .mv (.c (.d (.v (.int .i64 0)))), none, 0⟩])
 (.seq (.reg true [⟨some 3, .ld 8 true (.t 1), none, 0⟩,
   ⟨some 4, .call (.c (.fn (.func 127) [] [])) [.t 3], none, 1⟩,
   ⟨some 5, .fa 0 (.t 1), none, 0⟩,
   ⟨some 6, .fa 4 (.t 5), none, 4⟩,
   ⟨some 7, .ld 1 false (.t 6), none, 12⟩,
   ⟨some 8, .bin .mul (.c (.d (.v (.int .i64 2)))) (.t 7), none, 28⟩,
   ⟨some 9, .bin .add (.t 4) (.t 8), none, 63⟩,
   ⟨some 2, .mv (.t 9), none, 127⟩])
 (.ret))⟩
theorem c107 : coF Try.prog Try.f107 = some C107 := by kernel_rfl
def A107 : Ann := { keep := [0, 1, 2], live := [] }
def E107 {Ω : Type} : Env Ω := econs 127 S127 (enil)
theorem e107 : GoodE Try.prog E107 := GoodE.cons g127 (GoodE.nil)
def S107 {Ω : Type} : Spec Ω := inl E107 A107 C107 false
theorem g107 : Good1 Try.prog 107 S107 := Good1.inl e107 mix Try.func107 (by kernel_rfl) c107 A107 false
/-- (coatcheck/plan.Plan).Total -/
def C108 : CF := ⟨1, [(2, none)],
 .seq (.reg false [⟨some 1, .box 49 8 (.t 0), none, 0⟩,
   ⟨some 2, .mv (.c (.d (.v (.int .i64 0)))), none, 0⟩])
 (.seq (.seq (.reg false [⟨some 3, .fa 0 (.t 1), none, 0⟩,
   ⟨some 4, .ld 8 true (.t 3), none, 0⟩,
   ⟨some 5, .call (.c (.fn (.func 106) [] [])) [.t 4], none, 0⟩,
   ⟨some 6, .eq .int true (.t 5) (.c (.d (.v (.int .i64 0)))), none, 0⟩])
 (.cond 6 (.seq (.reg false [⟨some 2, .mv (.c (.d (.v (.int .i64 0)))), none, 0⟩])
   (.ret))
   (.skip)))
 (.seq (.reg false [⟨some 7, .fa 0 (.t 1), none, 0⟩,
   ⟨some 8, .fa 1 (.t 7), none, 0⟩,
   ⟨some 9, .ld 1 false (.t 8), none, 0⟩,
   ⟨some 10, .fa 0 (.t 1), none, 0⟩,
   ⟨some 11, .fa 2 (.t 10), none, 0⟩,
   ⟨some 12, .ld 1 false (.t 11), none, 0⟩,
   ⟨some 13, .bin .mul (.t 9) (.t 12), none, 0⟩,
   ⟨some 2, .mv (.t 13), none, 0⟩])
 (.ret)))⟩
theorem c108 : coF Try.prog Try.f108 = some C108 := by kernel_rfl
def A108 : Ann := { keep := [0, 1, 2, 6], live := [] }
def E108 {Ω : Type} : Env Ω := econs 106 S106 (enil)
theorem e108 : GoodE Try.prog E108 := GoodE.cons g106 (GoodE.nil)
def S108 {Ω : Type} : Spec Ω := inl E108 A108 C108 false
theorem g108 : Good1 Try.prog 108 S108 := Good1.inl e108 mix Try.func108 (by kernel_rfl) c108 A108 false
/-- (coatcheck/plan.Plan).Size -/
def C64 : CF := ⟨1, [(2, none)],
 .seq (.reg false [⟨some 1, .box 49 8 (.t 0), none, 0⟩,
   ⟨some 2, .mv (.c (.d (.v (.int .i64 0)))), none, 0⟩])
 (.seq (.seq (.reg false [⟨some 3, .fa 0 (.t 1), none, 0⟩,
   ⟨some 4, .ld 8 true (.t 3), none, 0⟩,
   ⟨some 5, .call (.c (.fn (.func 106) [] [])) [.t 4], none, 0⟩,
   ⟨some 6, .eq .int true (.t 5) (.c (.d (.v (.int .i64 0)))), none, 0⟩])
 (.cond 6 (.seq (.reg false [⟨some 2, .mv (.c (.d (.v (.int .i64 0)))), none, 0⟩])
   (.ret))
   (.skip)))
 (.seq (.reg true [⟨some 7, .ld 8 true (.t 1), none, 0⟩,
   ⟨some 8, .call (.c (.fn (.func 107) [] [])) [.t 7], none, 1⟩,
   ⟨some 9, .ld 8 true (.t 1), none, 0⟩,
   ⟨some 10, .call (.c (.fn (.func 108) [] [])) [.t 9], none, 7⟩,
   ⟨some 11, .fa 0 (.t 1), none, 0⟩,
   ⟨some 12, .fa 3 (.t 11), none, 16⟩,
   ⟨some 13, .ld 1 false (.t 12), none, 48⟩,
   ⟨some 14, .bin .add (.c (.d (.v (.int .i64 1)))) (.t 13), none, 112⟩,
   ⟨some 15, .bin .mul (.t 10) (.t 14), none, 255⟩,
   ⟨some 16, .bin .add (.t 8) (.t 15), none, 511⟩,
   ⟨some 2, .mv (.t 16), none, 1023⟩])
 (.ret)))⟩
theorem c64 : coF Try.prog Try.f64 = some C64 := by kernel_rfl
def A64 : Ann := { keep := [0, 1, 2, 6], live := [] }
def E64 {Ω : Type} : Env Ω := econs 106 S106 (econs 107 S107 (econs 108 S108 (enil)))
theorem e64 : GoodE Try.prog E64 := GoodE.cons g106 (GoodE.cons g107 (GoodE.cons g108 (GoodE.nil)))
end Go.Sx.Pr

/- Contract: the number of words. -/
namespace Go.Sx.Pr
open Go Go.Sx Go.Proofs
set_option maxRecDepth 100000

/-- The number of words of a valid configuration, else 0. -/
def szZ (a b c d e f g l : Int) : Int := bif chk a b c d e f g l == 0 then (sizeN a.toNat b.toNat c.toNat d.toNat e.toNat : Int) else 0

theorem r64 {Ω : Type} (it : Itr Ω) (K : SV → SH → Option Ω) (a b c d e f g l : Int) :
    sxFnI it E64 A64 C64 [cfgS a b c d e f g l] [] K =
    br (!chk a b c d e f g l == 0) (K (I 0) [.cells 49 [I a, I b, I c, I d, I e, I f, I g, U l]]) (br (!chk a b c d e f g l == 0) (K (I (IntKind.wrap .i64 (IntKind.wrap .i64 (IntKind.wrap .i64 (IntKind.wrap .i64 (3 + a) + b) + IntKind.wrap .i64 (2 * e)) + IntKind.wrap .i64 (0 * IntKind.wrap .i64 (1 + d))))) [.cells 49 [I a, I b, I c, I d, I e, I f, I g, U l]]) (K (I (IntKind.wrap .i64 (IntKind.wrap .i64 (IntKind.wrap .i64 (IntKind.wrap .i64 (3 + a) + b) + IntKind.wrap .i64 (2 * e)) + IntKind.wrap .i64 (IntKind.wrap .i64 (b * c) * IntKind.wrap .i64 (1 + d))))) [.cells 49 [I a, I b, I c, I d, I e, I f, I g, U l]])) := by kernel_rfl

theorem v64 {Ω : Type} (K : SV → SH → Option Ω) (a b c d e f g l : Int) : sxFn E64 A64 C64 [cfgS a b c d e f g l] [] K = K (I (szZ a b c d e f g l)) [.cells 49 [I a, I b, I c, I d, I e, I f, I g, U l]] := by
  rw [← sxFnI_eq, r64]
  unfold szZ
  by_cases h : chk a b c d e f g l = 0
  · have h0 : (chk a b c d e f g l == 0) = true := by simp [h]
    rw [h0]
    simp only [br, Bool.not_true, cond_false, cond_true]
    obtain ⟨⟨a1, a2⟩, ⟨b1, b2⟩, ⟨c1, c2⟩, ⟨g1, g2⟩, ⟨e1, e2⟩, _⟩ := chk_zero h
    obtain ⟨A, rfl⟩ := Int.eq_ofNat_of_zero_le (show 0 ≤ a by omega)
    obtain ⟨Bn, rfl⟩ := Int.eq_ofNat_of_zero_le (show 0 ≤ b by omega)
    obtain ⟨Cn, rfl⟩ := Int.eq_ofNat_of_zero_le (show 0 ≤ c by omega)
    obtain ⟨Dn, rfl⟩ := Int.eq_ofNat_of_zero_le (show 0 ≤ d by omega)
    obtain ⟨En, rfl⟩ := Int.eq_ofNat_of_zero_le (show 0 ≤ e by omega)
    have hBC : Bn * Cn ≤ 8 * 16 := Nat.mul_le_mul (by omega) (by omega)
    have hP : (Bn * Cn) * (1 + Dn) ≤ 128 * 5 := Nat.mul_le_mul (by omega) (by omega)
    have e1 : IntKind.wrap .i64 ((Bn : Int) * Cn) = ((Bn * Cn : Nat) : Int) := by rw [← Int.natCast_mul, w64] <;> omega
    have e2 : IntKind.wrap .i64 (1 + (Dn : Int)) = ((1 + Dn : Nat) : Int) := by rw [w64] <;> omega
    have e3 : IntKind.wrap .i64 (((Bn * Cn : Nat) : Int) * ((1 + Dn : Nat) : Int)) = ((Bn * Cn * (1 + Dn) : Nat) : Int) := by rw [← Int.natCast_mul, w64] <;> omega
    rw [e1, e2, e3]
    have e4 : IntKind.wrap .i64 (3 + (A : Int)) = 3 + A := by rw [w64] <;> omega
    have e5 : IntKind.wrap .i64 (3 + (A : Int) + Bn) = 3 + A + Bn := by rw [w64] <;> omega
    have e6 : IntKind.wrap .i64 (2 * (En : Int)) = 2 * En := by rw [w64] <;> omega
    have e7 : IntKind.wrap .i64 (3 + (A : Int) + Bn + 2 * En) = 3 + A + Bn + 2 * En := by rw [w64] <;> omega
    have e8 : IntKind.wrap .i64 (3 + (A : Int) + Bn + 2 * En + ((Bn * Cn * (1 + Dn) : Nat) : Int)) = 3 + A + Bn + 2 * En + ((Bn * Cn * (1 + Dn) : Nat) : Int) := by rw [w64] <;> omega
    rw [e4, e5, e6, e7, e8]
    simp only [Int.toNat_natCast, sizeN]
    have e9 : (1 + Dn) * (Bn * Cn) = Bn * Cn * (1 + Dn) := Nat.mul_comm _ _
    rw [e9]
    congr 4
    omega
  · have h0 : (chk a b c d e f g l == 0) = false := by simp [h]
    rw [h0]
    simp only [br, Bool.not_false, cond_true, cond_false]

def FSize : List (List Int) → Option (Bool × SV × SH)
  | [[a, b, c, d, e, f, g, l]] => some (true, I (szZ a b c d e f g l), [])
  | _ => none
def S64 {Ω : Type} : Spec Ω := conSpec [.g cfgK] FSize
theorem g64 : Good1 Try.prog 64 S64 := conGood Try.func64 (by kernel_rfl) c64 e64 mix (A := A64) fun l r hr hl hF => by
  obtain ⟨x, rfl, hx⟩ := lenAs_one hl
  obtain ⟨a, b, c, d, e, f, g, i, rfl⟩ := eight hx
  simp only [FSize, Option.some.injEq, Prod.mk.injEq, true_and] at hF
  obtain ⟨rfl, rfl⟩ := hF
  exact ⟨trivial, trivial, _, trim_none rfl _, v64 _ a b c d e f g i⟩
end Go.Sx.Pr
