/- Pieces of the code of functions, compiled for the symbolic interpreter, each checked against the program; no conditions. -/
import Derived.Test.YtljmncdlehinnaaN6
import Derived.Test.YtljmncdlehinnaaRows
import Derived.KernelRfl
set_option linter.unusedVariables false
set_option linter.unusedSimpArgs false
namespace Go.Sx.Pr
open Go Go.Sx Go.Proofs
set_option maxRecDepth 100000
def K52_1 : CC := .seq (.reg false [⟨some 4, .mv (.c (.d (.v (.bool true)))), none, 0⟩])
 (.ret)
def L52_2 : CC := .seq (.seq (.reg false [⟨some 11, .mv (.t 5), none, 0⟩,
   ⟨some 12, .mv (.t 0), none, 0⟩,
   ⟨some 13, .len (.t 12), none, 0⟩,
   ⟨some 14, .bin .lss (.t 11) (.t 13), none, 0⟩])
 (.cond 14 (.skip)
   (.exit 0)))
 (.seq (.block 1 (.seq (.reg true [⟨some 17, .mv (.t 0), none, 0⟩,
     ⟨some 18, .mv (.t 5), none, 0⟩,
     ⟨some 19, .ixs 1 (.t 17) (.t 18), none, 3⟩,
     ⟨some 20, .ld 1 false (.t 19), none, 7⟩,
     ⟨some 21, .mv (.t 1), none, 0⟩,
     ⟨some 22, .mv (.t 5), none, 0⟩,
     ⟨some 23, .ixs 1 (.t 21) (.t 22), none, 48⟩,
     ⟨some 24, .ld 1 false (.t 23), none, 112⟩,
     ⟨some 25, .eq .int true (.t 20) (.t 24), none, 255⟩])
   (.cond 25 (.seq (.reg false [⟨some 4, .mv (.c (.d (.v (.bool false)))), none, 0⟩])
     (.ret))
     (.skip))))
 (.reg false [⟨some 15, .mv (.t 5), none, 0⟩,
   ⟨some 16, .bin .add (.t 15) (.c (.d (.v (.int .i64 1)))), none, 0⟩,
   ⟨some 5, .mv (.t 16), none, 0⟩]))
def K52_3 : CC := .reg false [⟨some 5, .mv (.c (.d (.v (.int .i64 0)))), none, 0⟩]
def K52_4 : CC := .seq (.reg false [⟨some 6, .mv (.t 0), none, 0⟩,
   ⟨some 7, .len (.t 6), none, 0⟩,
   ⟨some 8, .mv (.t 1), none, 0⟩,
   ⟨some 9, .len (.t 8), none, 0⟩,
   ⟨some 10, .eq .int true (.t 7) (.t 9), none, 0⟩])
 (.cond 10 (.seq (.reg false [⟨some 4, .mv (.c (.d (.v (.bool false)))), none, 0⟩])
   (.ret))
   (.skip))
def K52_5 : CC := .reg false [⟨some 4, .mv (.c (.d (.v (.bool false)))), none, 0⟩]
/-- coatcheck/coatcheckref02.Ints -/
def C52 : CF := ⟨2, [(4, none)],
 .seq K52_5 (.seq K52_4 (.seq (.seq K52_3 (.block 0 (.loop L52_2))) K52_1))⟩
theorem c52 : coF Try.prog Try.f44 = some C52 := by kernel_rfl
def A52 : Ann := { keep := [0, 1, 4, 5, 10, 14, 25], live := [(0, [0, 1, 5])] }
def E52 {Ω : Type} : Env Ω := enil
theorem e52 : GoodE Try.prog E52 := GoodE.nil
def Z52_2 {Ω : Type} (it : Itr Ω) (K : SV → SH → Option Ω) : SE → SS → Option Ω := kblk 0 (kseq it E52 A52 K52_1 0 (kfn C52 K))
end Go.Sx.Pr

/- Contract: equality of lists of numbers. -/
namespace Go.Sx.Pr
open Go Go.Sx Go.Proofs
set_option maxRecDepth 100000

/-! ### ref02.Ints -/
abbrev S52s (i : Int) (xs ys : List Int) : SS := ⟨[(0, .d (.ints .i64 xs)), (1, .d (.ints .i64 ys)), (5, I i)], []⟩
section
variable {Ω : Type} (it : Itr Ω) (IT : SS → Option Ω) (K : SV → SH → Option Ω) (xs ys : List Int) (i : Int)
theorem r52 : sxFnI it E52 A52 C52 [.d (.ints .i64 xs), .d (.ints .i64 ys)] [] K =
    br (!((xs.length : Int) == (ys.length : Int))) (K (B false) []) (it [0, 1, 5] 0 (sxI it E52 A52 L52_2 0) (S52s 0 xs ys) (Z52_2 it K)) := by kernel_rfl
theorem r52_1 : sxI it E52 A52 L52_2 0 (S52s i xs ys) (kitV [0, 1, 5] 0 IT (Z52_2 it K)) =
    br (decide (i < (xs.length : Int))) (br (inB i xs.length) (br (inB i ys.length) (br (!(xs.getD i.toNat 0 == ys.getD i.toNat 0)) (K (B false) []) (IT (S52s (IntKind.wrap .i64 (i + 1)) xs ys))) none) none) (K (B true) []) := by kernel_rfl
end

theorem loop52 {Ω : Type} (K : SV → SH → Option Ω) {xs ys : List Int} (hl : xs.length = ys.length) (hb : xs.length < 1000000000) : ∀ (k i n : Nat), xs.length - i = k → i ≤ xs.length → k < n →
    iter [0, 1, 5] 0 (sxI itB E52 A52 L52_2 0) n (S52s i xs ys) (Z52_2 itB K) = K (B (decide (xs.drop i = ys.drop i))) []
  | k, i, 0, _, _, h => by omega
  | k, i, n + 1, hk, hi, hn => by
    rw [iter_succ, r52_1]
    by_cases h : i < xs.length
    · have h1 : decide ((i : Int) < (xs.length : Int)) = true := by simp; omega
      have h2 : inB (i : Int) xs.length = true := by simp [inB]; omega
      have h3 : inB (i : Int) ys.length = true := by simp [inB]; omega
      have h4 : IntKind.wrap .i64 ((i : Int) + 1) = ((i + 1 : Nat) : Int) := by rw [w64] <;> omega
      have hy : i < ys.length := by omega
      have e1 : xs.getD ((i : Int)).toNat 0 = xs[i] := by simp [List.getD_eq_getElem?_getD, h]
      have e2 : ys.getD ((i : Int)).toNat 0 = ys[i] := by simp [List.getD_eq_getElem?_getD, hy]
      rw [h1, h2, h3, h4, e1, e2]
      simp only [br, cond_true]
      have hd : (xs.drop i = ys.drop i) ↔ (xs[i] = ys[i] ∧ xs.drop (i + 1) = ys.drop (i + 1)) := by rw [List.drop_eq_getElem_cons h, List.drop_eq_getElem_cons hy, List.cons.injEq]
      have hd' : decide (xs.drop i = ys.drop i) = decide (xs[i] = ys[i] ∧ xs.drop (i + 1) = ys.drop (i + 1)) := decide_eq_decide.2 hd
      rw [hd']
      by_cases e : xs[i] = ys[i]
      · have : (!(xs[i] == ys[i])) = false := by simp [e]
        rw [this]
        simp only [cond_false]
        rw [loop52 K hl hb (k - 1) (i + 1) n (by omega) (by omega) (by omega)]
        simp only [e, true_and]
      · have : (!(xs[i] == ys[i])) = true := by simp [e]
        rw [this]
        simp only [e, false_and, cond_true, decide_false]
    · have h1 : decide ((i : Int) < (xs.length : Int)) = false := by simp; omega
      rw [h1]
      simp only [br, cond_false]
      rw [List.drop_eq_nil_of_le (by omega), List.drop_eq_nil_of_le (by omega)]
      simp

theorem v52 {Ω : Type} (K : SV → SH → Option Ω) (xs ys : List Int) (hb : xs.length < 1000000000) : sxFn E52 A52 C52 [.d (.ints .i64 xs), .d (.ints .i64 ys)] [] K = K (B (decide (xs = ys))) [] := by
  rw [← sxFnI_eq, r52]
  by_cases h : xs.length = ys.length
  · have : (!((xs.length : Int) == (ys.length : Int))) = false := by simp [h]
    rw [this]
    simp only [br, cond_false]
    have := loop52 K h hb xs.length 0 big (by omega) (by omega) (by unfold big; omega)
    simpa [itB] using this
  · have : (!((xs.length : Int) == (ys.length : Int))) = true := by simp; omega
    rw [this]
    have : xs ≠ ys := fun e => h (by rw [e])
    simp [br, this]

def FInts : List (List Int) → Option (Bool × SV × SH)
  | [xs, ys] => some (decide (xs.length < 1000000000), B (decide (xs = ys)), [])
  | _ => none
def S52 {Ω : Type} : Spec Ω := conSpec [.s .i64, .s .i64] FInts
theorem g52 : Good1 Try.prog 44 S52 := conGood Try.func44 (by kernel_rfl) c52 e52 mix (A := A52) fun l r hr hl hF => by
  obtain ⟨xs, q, rfl, _, ys, q', rfl, _, hq⟩ := hl
  simp only [lenAs] at hq
  subst hq
  simp only [FInts, Option.some.injEq, Prod.mk.injEq] at hF
  obtain ⟨h1, rfl, rfl⟩ := hF
  exact ⟨trivial, trivial, _, trim_none rfl _, v52 _ xs ys (by simpa using h1)⟩

end Go.Sx.Pr
