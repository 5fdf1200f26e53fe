/- Plain laws of the pure memory. -/
import Derived.Test.YthbknbmfcklebaaGreatR2
import Derived.Test.YthbknbmfcklebaaGreatR2
import Derived.Test.YthbknbmfcklebaaGreatRows
import Derived.KernelRfl
import Derived.Test.YthbknbmfcklebaaGreatR13
import Derived.Test.YthbknbmfcklebaaGreatSxCon3
import Derived.Test.YthbknbmfcklebaaGreatSxCon3
import Derived.Test.YthbknbmfcklebaaGreatR15
set_option linter.all false
set_option linter.unusedVariables false
set_option linter.unusedSimpArgs false
set_option linter.unnecessarySimpa false
namespace Go.Sx.Pr
open Go Go.Sx Go.Sx.Md

theorem w64_id {x : Int} (h1 : -9223372036854775808 ≤ x) (h2 : x ≤ 9223372036854775807) : w64' x = x := by
  rw [w64', IntKind.wrap_i64]; omega
end Go.Sx.Pr

namespace Go.Sx.Pr
open Go Go.Sx Go.Proofs
set_option maxRecDepth 100000
def K52_1 : CC := .seq (.reg false [⟨some 4, .mv (.c (.d (.v (.bool true)))), none, 0⟩])
 (.ret)
def L52_2 : CC := .seq (.seq (.reg false [⟨some 11, .mv (.t 5), none, 0⟩,
   ⟨some 12, .mv (.t 0), none, 0⟩,
   ⟨some 13, .len (.t 12), none, 0⟩,
   ⟨some 14, .bin .lss (.t 11) (.t 13), none, 0⟩])
 (.cond 14 (.skip)
   (.exit 0)))
 (.seq (.block 1 (.seq (.reg true [⟨some 17, .mv (.t 0), none, 0⟩,
     ⟨some 18, .mv (.t 5), none, 0⟩,
     ⟨some 19, .ixs 1 (.t 17) (.t 18), none, 3⟩,
     ⟨some 20, .ld 1 false (.t 19), none, 7⟩,
     ⟨some 21, .mv (.t 1), none, 0⟩,
     ⟨some 22, .mv (.t 5), none, 0⟩,
     ⟨some 23, .ixs 1 (.t 21) (.t 22), none, 48⟩,
     ⟨some 24, .ld 1 false (.t 23), none, 112⟩,
     ⟨some 25, .eq .int true (.t 20) (.t 24), none, 255⟩])
   (.cond 25 (.seq (.reg false [⟨some 4, .mv (.c (.d (.v (.bool false)))), none, 0⟩])
     (.ret))
     (.skip))))
 (.reg false [⟨some 15, .mv (.t 5), none, 0⟩,
   ⟨some 16, .bin .add (.t 15) (.c (.d (.v (.int .i64 1)))), none, 0⟩,
   ⟨some 5, .mv (.t 16), none, 0⟩]))
def K52_3 : CC := .reg false [⟨some 5, .mv (.c (.d (.v (.int .i64 0)))), none, 0⟩]
def K52_4 : CC := .seq (.reg false [⟨some 6, .mv (.t 0), none, 0⟩,
   ⟨some 7, .len (.t 6), none, 0⟩,
   ⟨some 8, .mv (.t 1), none, 0⟩,
   ⟨some 9, .len (.t 8), none, 0⟩,
   ⟨some 10, .eq .int true (.t 7) (.t 9), none, 0⟩])
 (.cond 10 (.seq (.reg false [⟨some 4, .mv (.c (.d (.v (.bool false)))), none, 0⟩])
   (.ret))
   (.skip))
def K52_5 : CC := .reg false [⟨some 4, .mv (.c (.d (.v (.bool false)))), none, 0⟩]
/-- coatcheck/coatcheckref02.Ints -/
def C52 : CF := ⟨2, [(4, none)],
 .seq K52_5 (.seq K52_4 (.seq (.seq K52_3 (.block 0 (.loop L52_2))) K52_1))⟩
theorem c52 : coF Tryz.prog Tryz.f19 = some C52 := by kernel_rfl
def A52 : Ann := { keep := [0, 1, 4, 5, 10, 14, 25], live := [(0, [0, 1, 5])] }
def E52 {Ω : Type} : Env Ω := enil
theorem e52 : GoodE Tryz.prog E52 := GoodE.nil
def Z52_2 {Ω : Type} (it : Itr Ω) (K : SV → SH → Option Ω) : SE → SS → Option Ω := kblk 0 (kseq it E52 A52 K52_1 0 (kfn C52 K))
end Go.Sx.Pr

/- Contract: equality of lists of numbers. -/
namespace Go.Sx.Pr
open Go Go.Sx Go.Proofs
set_option maxRecDepth 100000

/-! ### ref02.Ints -/
abbrev S52s (i : Int) (xs ys : List Int) : SS := ⟨[(0, .d (.ints .i64 xs)), (1, .d (.ints .i64 ys)), (5, I i)], []⟩
section
variable {Ω : Type} (it : Itr Ω) (IT : SS → Option Ω) (K : SV → SH → Option Ω) (xs ys : List Int) (i : Int)
theorem r52 : sxFnI it E52 A52 C52 [.d (.ints .i64 xs), .d (.ints .i64 ys)] [] K =
    br (!((xs.length : Int) == (ys.length : Int))) (K (B false) []) (it [0, 1, 5] 0 (sxI it E52 A52 L52_2 0) (S52s 0 xs ys) (Z52_2 it K)) := by kernel_rfl
theorem r52_1 : sxI it E52 A52 L52_2 0 (S52s i xs ys) (kitV [0, 1, 5] 0 IT (Z52_2 it K)) =
    br (decide (i < (xs.length : Int))) (br (inB i xs.length) (br (inB i ys.length) (br (!(xs.getD i.toNat 0 == ys.getD i.toNat 0)) (K (B false) []) (IT (S52s (IntKind.wrap .i64 (i + 1)) xs ys))) none) none) (K (B true) []) := by kernel_rfl
end

theorem loop52 {Ω : Type} (K : SV → SH → Option Ω) {xs ys : List Int} (hl : xs.length = ys.length) (hb : xs.length < 1000000000) : ∀ (k i n : Nat), xs.length - i = k → i ≤ xs.length → k < n →
    iter [0, 1, 5] 0 (sxI itB E52 A52 L52_2 0) n (S52s i xs ys) (Z52_2 itB K) = K (B (decide (xs.drop i = ys.drop i))) []
  | k, i, 0, _, _, h => by omega
  | k, i, n + 1, hk, hi, hn => by
    rw [iter_succ, r52_1]
    by_cases h : i < xs.length
    · have h1 : decide ((i : Int) < (xs.length : Int)) = true := by simp; omega
      have h2 : inB (i : Int) xs.length = true := by simp [inB]; omega
      have h3 : inB (i : Int) ys.length = true := by simp [inB]; omega
      have h4 : IntKind.wrap .i64 ((i : Int) + 1) = ((i + 1 : Nat) : Int) := by rw [w64] <;> omega
      have hy : i < ys.length := by omega
      have e1 : xs.getD ((i : Int)).toNat 0 = xs[i] := by simp [List.getD_eq_getElem?_getD, h]
      have e2 : ys.getD ((i : Int)).toNat 0 = ys[i] := by simp [List.getD_eq_getElem?_getD, hy]
      rw [h1, h2, h3, h4, e1, e2]
      simp only [br, cond_true]
      have hd : (xs.drop i = ys.drop i) ↔ (xs[i] = ys[i] ∧ xs.drop (i + 1) = ys.drop (i + 1)) := by rw [List.drop_eq_getElem_cons h, List.drop_eq_getElem_cons hy, List.cons.injEq]
      have hd' : decide (xs.drop i = ys.drop i) = decide (xs[i] = ys[i] ∧ xs.drop (i + 1) = ys.drop (i + 1)) := decide_eq_decide.2 hd
      rw [hd']
      by_cases e : xs[i] = ys[i]
      · have : (!(xs[i] == ys[i])) = false := by simp [e]
        rw [this]
        simp only [cond_false]
        rw [loop52 K hl hb (k - 1) (i + 1) n (by omega) (by omega) (by omega)]
        simp only [e, true_and]
      · have : (!(xs[i] == ys[i])) = true := by simp [e]
        rw [this]
        simp only [e, false_and, cond_true, decide_false]
    · have h1 : decide ((i : Int) < (xs.length : Int)) = false := by simp; omega
      rw [h1]
      simp only [br, cond_false]
      rw [List.drop_eq_nil_of_le (by omega), List.drop_eq_nil_of_le (by omega)]
      simp

theorem v52 {Ω : Type} (K : SV → SH → Option Ω) (xs ys : List Int) (hb : xs.length < 1000000000) : sxFn E52 A52 C52 [.d (.ints .i64 xs), .d (.ints .i64 ys)] [] K = K (B (decide (xs = ys))) [] := by
  rw [← sxFnI_eq, r52]
  by_cases h : xs.length = ys.length
  · have : (!((xs.length : Int) == (ys.length : Int))) = false := by simp [h]
    rw [this]
    simp only [br, cond_false]
    have := loop52 K h hb xs.length 0 big (by omega) (by omega) (by unfold big; omega)
    simpa [itB] using this
  · have : (!((xs.length : Int) == (ys.length : Int))) = true := by simp; omega
    rw [this]
    have : xs ≠ ys := fun e => h (by rw [e])
    simp [br, this]

def FInts : List (List Int) → Option (Bool × SV × SH)
  | [xs, ys] => some (decide (xs.length < 1000000000), B (decide (xs = ys)), [])
  | _ => none
def S52 {Ω : Type} : Spec Ω := conSpec [.s .i64, .s .i64] FInts
theorem g52 : Good1 Tryz.prog 19 S52 := conGood Tryz.func19 (by kernel_rfl) c52 e52 mix (A := A52) fun l r hr hl hF => by
  obtain ⟨xs, q, rfl, _, ys, q', rfl, _, hq⟩ := hl
  simp only [lenAs] at hq
  subst hq
  simp only [FInts, Option.some.injEq, Prod.mk.injEq] at hF
  obtain ⟨h1, rfl, rfl⟩ := hF
  exact ⟨trivial, trivial, _, trim_none rfl _, v52 _ xs ys (by simpa using h1)⟩

end Go.Sx.Pr

namespace Go.Sx.Pr
open Go Go.Sx Go.Proofs
set_option maxRecDepth 100000
def K48_1 : CC := .seq (.reg false [⟨some 157, .fa 10 (.t 2), none, 0⟩,
   ⟨some 158, .ld 1 false (.t 157), none, 0⟩,
   ⟨some 159, .fa 10 (.t 3), none, 0⟩,
   ⟨some 160, .ld 1 false (.t 159), none, 0⟩,
   ⟨some 161, .call (.c (.fn (.func 19) [] [])) [.t 158, .t 160], none, 0⟩,
   ⟨some 162, .mv (.t 161), none, 0⟩,
   ⟨some 163, .fa 17 (.t 2), some (162, true), 0⟩,
   ⟨some 164, .ld 1 false (.t 163), some (162, true), 0⟩,
   ⟨some 165, .fa 17 (.t 3), some (162, true), 0⟩,
   ⟨some 166, .ld 1 false (.t 165), some (162, true), 0⟩,
   ⟨some 167, .call (.c (.fn (.func 19) [] [])) [.t 164, .t 166], some (162, true), 0⟩,
   ⟨some 168, .pick (.t 162) (.t 167) (.c (.d (.v (.bool false)))), none, 0⟩,
   ⟨some 169, .mv (.t 168), none, 0⟩,
   ⟨some 170, .fa 29 (.t 2), some (169, true), 0⟩,
   ⟨some 171, .ld 1 false (.t 170), some (169, true), 0⟩,
   ⟨some 172, .fa 29 (.t 3), some (169, true), 0⟩,
   ⟨some 173, .ld 1 false (.t 172), some (169, true), 0⟩,
   ⟨some 174, .call (.c (.fn (.func 20) [] [])) [.t 171, .t 173], some (169, true), 0⟩,
   ⟨some 175, .pick (.t 169) (.t 174) (.c (.d (.v (.bool false)))), none, 0⟩,
   ⟨some 4, .mv (.t 175), none, 0⟩])
 (.ret)
def K48_2 : CC := .reg false [⟨some 130, .mv (.t 5), none, 0⟩,
   ⟨some 131, .bin .add (.t 130) (.c (.d (.v (.int .i64 1)))), none, 0⟩,
   ⟨some 5, .mv (.t 131), none, 0⟩]
def K48_3 : CC := .cond 156 (.seq (.reg false [⟨some 4, .mv (.c (.d (.v (.bool false)))), none, 0⟩])
   (.ret))
   (.skip)
def K48_4 : CC := .reg true [⟨some 132, .mv (.t 5), none, 0⟩,
   ⟨some 133, .fa 11 (.t 2), none, 0⟩,
   ⟨some 134, .ixa 3 2 (.t 133) (.t 132), none, 3⟩,
   ⟨some 135, .fa 0 (.t 134), none, 7⟩,
   ⟨some 136, .ld 1 false (.t 135), none, 15⟩,
   ⟨some 137, .mv (.t 5), none, 0⟩,
   ⟨some 138, .fa 11 (.t 3), none, 0⟩,
   ⟨some 139, .ixa 3 2 (.t 138) (.t 137), none, 96⟩,
   ⟨some 140, .fa 0 (.t 139), none, 224⟩,
   ⟨some 141, .ld 1 false (.t 140), none, 480⟩,
   ⟨some 142, .eq .int true (.t 136) (.t 141), none, 1023⟩,
   ⟨some 143, .mv (.t 142), none, 2047⟩,
   ⟨some 144, .mv (.t 5), some (143, false), 4095⟩,
   ⟨some 145, .fa 11 (.t 2), some (143, false), 4095⟩,
   ⟨some 146, .ixa 3 2 (.t 145) (.t 144), some (143, false), 16383⟩,
   ⟨some 147, .fa 1 (.t 146), some (143, false), 32767⟩,
   ⟨some 148, .ld 1 false (.t 147), some (143, false), 65535⟩,
   ⟨some 149, .mv (.t 5), some (143, false), 4095⟩,
   ⟨some 150, .fa 11 (.t 3), some (143, false), 4095⟩,
   ⟨some 151, .ixa 3 2 (.t 150) (.t 149), some (143, false), 397311⟩,
   ⟨some 152, .fa 1 (.t 151), some (143, false), 921599⟩,
   ⟨some 153, .ld 1 false (.t 152), some (143, false), 1970175⟩,
   ⟨some 154, .call (.c (.fn (.func 19) [] [])) [.t 148, .t 153], some (143, false), 4194303⟩,
   ⟨some 155, .un .not (.t 154), some (143, false), 8388607⟩,
   ⟨some 156, .pick (.t 143) (.c (.d (.v (.bool true)))) (.t 155), none, 16777215⟩]
def K48_5 : CC := .seq (.reg false [⟨some 128, .mv (.t 5), none, 0⟩,
   ⟨some 129, .bin .lss (.t 128) (.c (.d (.v (.int .i64 3)))), none, 0⟩])
 (.cond 129 (.skip)
   (.exit 0))
def L48_6 : CC := .seq K48_5 (.seq (.block 1 (.seq K48_4 K48_3)) K48_2)
def K48_7 : CC := .reg false [⟨some 5, .mv (.c (.d (.v (.int .i64 0)))), none, 0⟩]
def K48_8 : CC := .cond 127 (.seq (.reg false [⟨some 4, .mv (.c (.d (.v (.bool false)))), none, 0⟩])
   (.ret))
   (.skip)
def K48_9 : CC := .reg false [⟨some 67, .fa 23 (.t 2), none, 0⟩,
   ⟨some 68, .ld 1 false (.t 67), none, 0⟩,
   ⟨some 69, .fa 23 (.t 3), none, 0⟩,
   ⟨some 70, .ld 1 false (.t 69), none, 0⟩,
   ⟨some 71, .eq .int true (.t 68) (.t 70), none, 0⟩,
   ⟨some 72, .mv (.t 71), none, 0⟩,
   ⟨some 73, .fa 24 (.t 2), some (72, false), 0⟩,
   ⟨some 74, .ld 1 false (.t 73), some (72, false), 0⟩,
   ⟨some 75, .fa 24 (.t 3), some (72, false), 0⟩,
   ⟨some 76, .ld 1 false (.t 75), some (72, false), 0⟩,
   ⟨some 77, .eq .int true (.t 74) (.t 76), some (72, false), 0⟩,
   ⟨some 78, .pick (.t 72) (.c (.d (.v (.bool true)))) (.t 77), none, 0⟩,
   ⟨some 79, .mv (.t 78), none, 0⟩,
   ⟨some 80, .fa 25 (.t 2), some (79, false), 0⟩,
   ⟨some 81, .ld 1 false (.t 80), some (79, false), 0⟩,
   ⟨some 82, .fa 25 (.t 3), some (79, false), 0⟩,
   ⟨some 83, .ld 1 false (.t 82), some (79, false), 0⟩,
   ⟨some 84, .eq .int true (.t 81) (.t 83), some (79, false), 0⟩,
   ⟨some 85, .pick (.t 79) (.c (.d (.v (.bool true)))) (.t 84), none, 0⟩,
   ⟨some 86, .mv (.t 85), none, 0⟩,
   ⟨some 87, .fa 26 (.t 2), some (86, false), 0⟩,
   ⟨some 88, .ld 1 false (.t 87), some (86, false), 0⟩,
   ⟨some 89, .fa 26 (.t 3), some (86, false), 0⟩,
   ⟨some 90, .ld 1 false (.t 89), some (86, false), 0⟩,
   ⟨some 91, .eq .int true (.t 88) (.t 90), some (86, false), 0⟩,
   ⟨some 92, .pick (.t 86) (.c (.d (.v (.bool true)))) (.t 91), none, 0⟩,
   ⟨some 93, .mv (.t 92), none, 0⟩,
   ⟨some 94, .fa 27 (.t 2), some (93, false), 0⟩,
   ⟨some 95, .ld 1 false (.t 94), some (93, false), 0⟩,
   ⟨some 96, .fa 27 (.t 3), some (93, false), 0⟩,
   ⟨some 97, .ld 1 false (.t 96), some (93, false), 0⟩,
   ⟨some 98, .eq .int true (.t 95) (.t 97), some (93, false), 0⟩,
   ⟨some 99, .pick (.t 93) (.c (.d (.v (.bool true)))) (.t 98), none, 0⟩,
   ⟨some 100, .mv (.t 99), none, 0⟩,
   ⟨some 101, .fa 28 (.t 2), some (100, false), 0⟩,
   ⟨some 102, .ld 1 false (.t 101), some (100, false), 0⟩,
   ⟨some 103, .fa 28 (.t 3), some (100, false), 0⟩,
   ⟨some 104, .ld 1 false (.t 103), some (100, false), 0⟩,
   ⟨some 105, .eq .int true (.t 102) (.t 104), some (100, false), 0⟩,
   ⟨some 106, .pick (.t 100) (.c (.d (.v (.bool true)))) (.t 105), none, 0⟩,
   ⟨some 107, .mv (.t 106), none, 0⟩,
   ⟨some 108, .fa 30 (.t 2), some (107, false), 0⟩,
   ⟨some 109, .ld 1 false (.t 108), some (107, false), 0⟩,
   ⟨some 110, .fa 30 (.t 3), some (107, false), 0⟩,
   ⟨some 111, .ld 1 false (.t 110), some (107, false), 0⟩,
   ⟨some 112, .eq .int true (.t 109) (.t 111), some (107, false), 0⟩,
   ⟨some 113, .pick (.t 107) (.c (.d (.v (.bool true)))) (.t 112), none, 0⟩,
   ⟨some 114, .mv (.t 113), none, 0⟩,
   ⟨some 115, .fa 31 (.t 2), some (114, false), 0⟩,
   ⟨some 116, .ld 1 false (.t 115), some (114, false), 0⟩,
   ⟨some 117, .fa 31 (.t 3), some (114, false), 0⟩,
   ⟨some 118, .ld 1 false (.t 117), some (114, false), 0⟩,
   ⟨some 119, .eq .int true (.t 116) (.t 118), some (114, false), 0⟩,
   ⟨some 120, .pick (.t 114) (.c (.d (.v (.bool true)))) (.t 119), none, 0⟩,
   ⟨some 121, .mv (.t 120), none, 0⟩,
   ⟨some 122, .fa 32 (.t 2), some (121, false), 0⟩,
   ⟨some 123, .ld 1 false (.t 122), some (121, false), 0⟩,
   ⟨some 124, .fa 32 (.t 3), some (121, false), 0⟩,
   ⟨some 125, .ld 1 false (.t 124), some (121, false), 0⟩,
   ⟨some 126, .eq .bool true (.t 123) (.t 125), some (121, false), 0⟩,
   ⟨some 127, .pick (.t 121) (.c (.d (.v (.bool true)))) (.t 126), none, 0⟩]
def K48_10 : CC := .cond 66 (.seq (.reg false [⟨some 4, .mv (.c (.d (.v (.bool false)))), none, 0⟩])
   (.ret))
   (.skip)
def K48_11 : CC := .reg false [⟨some 6, .fa 0 (.t 2), none, 0⟩,
   ⟨some 7, .ld 1 false (.t 6), none, 0⟩,
   ⟨some 8, .fa 0 (.t 3), none, 0⟩,
   ⟨some 9, .ld 1 false (.t 8), none, 0⟩,
   ⟨some 10, .eq .int true (.t 7) (.t 9), none, 0⟩,
   ⟨some 11, .mv (.t 10), none, 0⟩,
   ⟨some 12, .fa 1 (.t 2), some (11, false), 0⟩,
   ⟨some 13, .ld 7 true (.t 12), some (11, false), 0⟩,
   ⟨some 14, .fa 1 (.t 3), some (11, false), 0⟩,
   ⟨some 15, .ld 7 true (.t 14), some (11, false), 0⟩,
   ⟨some 16, .eq (.cons .int 0 1 false (.cons .int 1 1 false (.cons .int 2 1 false (.cons .int 3 1 false (.cons .bool 4 1 false (.cons .int 5 1 false (.cons .int 6 1 false .nil))))))) true (.t 13) (.t 15), some (11, false), 0⟩,
   ⟨some 17, .pick (.t 11) (.c (.d (.v (.bool true)))) (.t 16), none, 0⟩,
   ⟨some 18, .mv (.t 17), none, 0⟩,
   ⟨some 19, .fa 8 (.t 2), some (18, false), 0⟩,
   ⟨some 20, .ld 1 false (.t 19), some (18, false), 0⟩,
   ⟨some 21, .fa 8 (.t 3), some (18, false), 0⟩,
   ⟨some 22, .ld 1 false (.t 21), some (18, false), 0⟩,
   ⟨some 23, .eq .bool true (.t 20) (.t 22), some (18, false), 0⟩,
   ⟨some 24, .pick (.t 18) (.c (.d (.v (.bool true)))) (.t 23), none, 0⟩,
   ⟨some 25, .mv (.t 24), none, 0⟩,
   ⟨some 26, .fa 9 (.t 2), some (25, false), 0⟩,
   ⟨some 27, .ld 1 false (.t 26), some (25, false), 0⟩,
   ⟨some 28, .fa 9 (.t 3), some (25, false), 0⟩,
   ⟨some 29, .ld 1 false (.t 28), some (25, false), 0⟩,
   ⟨some 30, .eq .int true (.t 27) (.t 29), some (25, false), 0⟩,
   ⟨some 31, .pick (.t 25) (.c (.d (.v (.bool true)))) (.t 30), none, 0⟩,
   ⟨some 32, .mv (.t 31), none, 0⟩,
   ⟨some 33, .fa 18 (.t 2), some (32, false), 0⟩,
   ⟨some 34, .ld 1 false (.t 33), some (32, false), 0⟩,
   ⟨some 35, .fa 18 (.t 3), some (32, false), 0⟩,
   ⟨some 36, .ld 1 false (.t 35), some (32, false), 0⟩,
   ⟨some 37, .eq .int true (.t 34) (.t 36), some (32, false), 0⟩,
   ⟨some 38, .pick (.t 32) (.c (.d (.v (.bool true)))) (.t 37), none, 0⟩,
   ⟨some 39, .mv (.t 38), none, 0⟩,
   ⟨some 40, .fa 19 (.t 2), some (39, false), 0⟩,
   ⟨some 41, .ld 1 false (.t 40), some (39, false), 0⟩,
   ⟨some 42, .fa 19 (.t 3), some (39, false), 0⟩,
   ⟨some 43, .ld 1 false (.t 42), some (39, false), 0⟩,
   ⟨some 44, .eq .int true (.t 41) (.t 43), some (39, false), 0⟩,
   ⟨some 45, .pick (.t 39) (.c (.d (.v (.bool true)))) (.t 44), none, 0⟩,
   ⟨some 46, .mv (.t 45), none, 0⟩,
   ⟨some 47, .fa 20 (.t 2), some (46, false), 0⟩,
   ⟨some 48, .ld 1 false (.t 47), some (46, false), 0⟩,
   ⟨some 49, .fa 20 (.t 3), some (46, false), 0⟩,
   ⟨some 50, .ld 1 false (.t 49), some (46, false), 0⟩,
   ⟨some 51, .eq .int true (.t 48) (.t 50), some (46, false), 0⟩,
   ⟨some 52, .pick (.t 46) (.c (.d (.v (.bool true)))) (.t 51), none, 0⟩,
   ⟨some 53, .mv (.t 52), none, 0⟩,
   ⟨some 54, .fa 21 (.t 2), some (53, false), 0⟩,
   ⟨some 55, .ld 1 false (.t 54), some (53, false), 0⟩,
   ⟨some 56, .fa 21 (.t 3), some (53, false), 0⟩,
   ⟨some 57, .ld 1 false (.t 56), some (53, false), 0⟩,
   ⟨some 58, .eq .int true (.t 55) (.t 57), some (53, false), 0⟩,
   ⟨some 59, .pick (.t 53) (.c (.d (.v (.bool true)))) (.t 58), none, 0⟩,
   ⟨some 60, .mv (.t 59), none, 0⟩,
   ⟨some 61, .fa 22 (.t 2), some (60, false), 0⟩,
   ⟨some 62, .ld 1 false (.t 61), some (60, false), 0⟩,
   ⟨some 63, .fa 22 (.t 3), some (60, false), 0⟩,
   ⟨some 64, .ld 1 false (.t 63), some (60, false), 0⟩,
   ⟨some 65, .eq .int true (.t 62) (.t 64), some (60, false), 0⟩,
   ⟨some 66, .pick (.t 60) (.c (.d (.v (.bool true)))) (.t 65), none, 0⟩]
def K48_12 : CC := .reg false [⟨some 2, .box 34 33 (.t 0), none, 0⟩,
   ⟨some 3, .box 34 33 (.t 1), none, 0⟩,
   ⟨some 4, .mv (.c (.d (.v (.bool false)))), none, 0⟩]
/-- coatcheck/coatcheckref04.Same -/
def C48 : CF := ⟨2, [(4, none)],
 .seq K48_12 (.seq (.seq K48_11 K48_10) (.seq (.seq K48_9 K48_8) (.seq (.seq K48_7 (.block 0 (.loop L48_6))) K48_1)))⟩
theorem c48 : coF Tryz.prog Tryz.f8 = some C48 := by kernel_rfl
def A48 : Ann := { keep := [0, 1, 2, 3, 4, 5, 66, 127, 129, 156], live := [(0, [2, 3, 5])] }
def E48 {Ω : Type} : Env Ω := econs 20 S32 (econs 19 S52 (enil))
theorem e48 : GoodE Tryz.prog E48 := GoodE.cons g32 (GoodE.cons g52 (GoodE.nil))
end Go.Sx.Pr

namespace Go.Sx.Pr
open Go Go.Sx Go.Proofs
set_option maxRecDepth 100000
def K46_1 : CC := .ret
def K46_2 : CC := .reg false [⟨some 3, .fa 10 (.t 1), none, 0⟩,
   ⟨some 4, .ld 1 false (.t 3), none, 0⟩,
   ⟨some 5, .len (.t 4), none, 0⟩,
   ⟨some 6, .bin .gtr (.t 5) (.c (.d (.v (.int .i64 40)))), none, 0⟩,
   ⟨some 7, .mv (.t 6), none, 0⟩,
   ⟨some 8, .fa 17 (.t 1), some (7, false), 0⟩,
   ⟨some 9, .ld 1 false (.t 8), some (7, false), 0⟩,
   ⟨some 10, .len (.t 9), some (7, false), 0⟩,
   ⟨some 11, .bin .gtr (.t 10) (.c (.d (.v (.int .i64 40)))), some (7, false), 0⟩,
   ⟨some 12, .pick (.t 7) (.c (.d (.v (.bool true)))) (.t 11), none, 0⟩,
   ⟨some 13, .mv (.t 12), none, 0⟩,
   ⟨some 14, .fa 29 (.t 1), some (13, false), 0⟩,
   ⟨some 15, .ld 1 false (.t 14), some (13, false), 0⟩,
   ⟨some 16, .len (.t 15), some (13, false), 0⟩,
   ⟨some 17, .bin .gtr (.t 16) (.c (.d (.v (.int .i64 40)))), some (13, false), 0⟩,
   ⟨some 18, .pick (.t 13) (.c (.d (.v (.bool true)))) (.t 17), none, 0⟩,
   ⟨some 19, .mv (.t 18), none, 0⟩,
   ⟨some 20, .fa 11 (.t 1), some (19, false), 0⟩,
   ⟨some 21, .ixa 3 2 (.t 20) (.c (.d (.v (.int .i64 0)))), some (19, false), 0⟩,
   ⟨some 22, .fa 1 (.t 21), some (19, false), 0⟩,
   ⟨some 23, .ld 1 false (.t 22), some (19, false), 0⟩,
   ⟨some 24, .len (.t 23), some (19, false), 0⟩,
   ⟨some 25, .bin .gtr (.t 24) (.c (.d (.v (.int .i64 40)))), some (19, false), 0⟩,
   ⟨some 26, .pick (.t 19) (.c (.d (.v (.bool true)))) (.t 25), none, 0⟩,
   ⟨some 27, .mv (.t 26), none, 0⟩,
   ⟨some 28, .fa 11 (.t 1), some (27, false), 0⟩,
   ⟨some 29, .ixa 3 2 (.t 28) (.c (.d (.v (.int .i64 1)))), some (27, false), 0⟩,
   ⟨some 30, .fa 1 (.t 29), some (27, false), 0⟩,
   ⟨some 31, .ld 1 false (.t 30), some (27, false), 0⟩,
   ⟨some 32, .len (.t 31), some (27, false), 0⟩,
   ⟨some 33, .bin .gtr (.t 32) (.c (.d (.v (.int .i64 40)))), some (27, false), 0⟩,
   ⟨some 34, .pick (.t 27) (.c (.d (.v (.bool true)))) (.t 33), none, 0⟩,
   ⟨some 35, .mv (.t 34), none, 0⟩,
   ⟨some 36, .fa 11 (.t 1), some (35, false), 0⟩,
   ⟨some 37, .ixa 3 2 (.t 36) (.c (.d (.v (.int .i64 2)))), some (35, false), 0⟩,
   ⟨some 38, .fa 1 (.t 37), some (35, false), 0⟩,
   ⟨some 39, .ld 1 false (.t 38), some (35, false), 0⟩,
   ⟨some 40, .len (.t 39), some (35, false), 0⟩,
   ⟨some 41, .bin .gtr (.t 40) (.c (.d (.v (.int .i64 40)))), some (35, false), 0⟩,
   ⟨some 42, .pick (.t 35) (.c (.d (.v (.bool true)))) (.t 41), none, 0⟩,
   ⟨some 2, .mv (.t 42), none, 0⟩]
def K46_3 : CC := .reg false [⟨some 1, .box 34 33 (.t 0), none, 0⟩,
   ⟨some 2, .mv (.c (.d (.v (.bool false)))), none, 0⟩]
/-- coatcheck/coatcheckref04.Great -/
def C46 : CF := ⟨1, [(2, none)],
 .seq K46_3 (.seq K46_2 K46_1)⟩
theorem c46 : coF Tryz.prog Tryz.f6 = some C46 := by kernel_rfl
def A46 : Ann := { keep := [0, 1, 2], live := [] }
def E46 {Ω : Type} : Env Ω := enil
theorem e46 : GoodE Tryz.prog E46 := GoodE.nil
end Go.Sx.Pr

/- A worker's states compared; too great a state: what the document's functions answer. -/
namespace Go.Sx.Pr
open Go Go.Sx Go.Sx.Md Go.Proofs
set_option maxRecDepth 100000
theorem n48 (x y : Wk) :
    sxFn (E48 (Ω := SV × SH)) (An A48 0) C48 [.agg (encW x), .agg (encW y)] [] (KT 0) =
    br (!Wk.line x == Wk.line y) (some (B false, [])) (br (! (Wk.kind x == Wk.kind y && (Wk.opT x == Wk.opT y && (Wk.opX x == Wk.opX y && (Wk.slab x == Wk.slab y && (Wk.use x == Wk.use y && (Wk.by_ x == Wk.by_ y && (Wk.nth x == Wk.nth y && true)))))))) (some (B false, [])) (br (!Wk.pinned x == Wk.pinned y) (some (B false, [])) (br (!Wk.E x == Wk.E y) (some (B false, [])) (br (!Wk.B x == Wk.B y) (some (B false, [])) (br (!Wk.K x == Wk.K y) (some (B false, [])) (br (!Wk.I x == Wk.I y) (some (B false, [])) (br (!Wk.C x == Wk.C y) (some (B false, [])) (br (!Wk.borrow x == Wk.borrow y) (some (B false, [])) (br (!Wk.H x == Wk.H y) (some (B false, [])) (br (!Wk.N x == Wk.N y) (some (B false, [])) (br (!Wk.V x == Wk.V y) (some (B false, [])) (br (!Wk.U x == Wk.U y) (some (B false, [])) (br (!Wk.G x == Wk.G y) (some (B false, [])) (br (!Wk.J x == Wk.J y) (some (B false, [])) (br (!Wk.T x == Wk.T y) (some (B false, [])) (br (!Wk.ret x == Wk.ret y) (some (B false, [])) (br (!Wk.give x == Wk.give y) (some (B false, [])) (br (!Wk.t0 x == Wk.t0 y) (some (B false, [])) (br (decide (List.length (Wk.l0 x) < 1000000000)) (br (!decide (Wk.l0 x = Wk.l0 y)) (some (B false, [])) (br (!Wk.t1 x == Wk.t1 y) (some (B false, [])) (br (decide (List.length (Wk.l1 x) < 1000000000)) (br (!decide (Wk.l1 x = Wk.l1 y)) (some (B false, [])) (br (!Wk.t2 x == Wk.t2 y) (some (B false, [])) (br (decide (List.length (Wk.l2 x) < 1000000000)) (br (!decide (Wk.l2 x = Wk.l2 y)) (some (B false, [])) (br (decide (List.length (Wk.rack x) < 1000000000)) (br (decide (Wk.rack x = Wk.rack y)) (br (decide (List.length (Wk.hold x) < 1000000000)) (br (decide (Wk.hold x = Wk.hold y)) (br (decide (List.length (Wk.read x) < 1000000000)) (some (B (decide (Wk.read x = Wk.read y)), [])) none) (some (B false, []))) none) (some (B false, []))) none)) none))) none))) none))))))))))))))))))) := by kernel_rfl
theorem n46 (x : Wk) :
    sxFn (E46 (Ω := SV × SH)) (An A46 0) C46 [.agg (encW x)] [] (KT 0) =
    br (decide ((↑ (List.length (Wk.rack x)) : Int) > 40)) (some (B true, [])) (br (decide ((↑ (List.length (Wk.hold x)) : Int) > 40)) (some (B true, [])) (br (decide ((↑ (List.length (Wk.read x)) : Int) > 40)) (some (B true, [])) (br (decide ((↑ (List.length (Wk.l0 x)) : Int) > 40)) (some (B true, [])) (br (decide ((↑ (List.length (Wk.l1 x)) : Int) > 40)) (some (B true, [])) (some (B (decide ((↑ (List.length (Wk.l2 x)) : Int) > 40)), [])))))) := by kernel_rfl

def lenW (x : Wk) : Bool := decide (x.rack.length < 1000000000) && (decide (x.hold.length < 1000000000) && (decide (x.read.length < 1000000000) && (decide (x.l0.length < 1000000000) && (decide (x.l1.length < 1000000000) && decide (x.l2.length < 1000000000)))))
def sameW (x y : Wk) : Bool :=
  (x.line == y.line) && ((x.kind == y.kind && (x.opT == y.opT && (x.opX == y.opX && (x.slab == y.slab && (x.use == y.use && (x.by_ == y.by_ && (x.nth == y.nth && true))))))) && ((x.pinned == y.pinned) && ((x.E == y.E) && ((x.B == y.B) && ((x.K == y.K) && ((x.I == y.I) && ((x.C == y.C) && ((x.borrow == y.borrow) && ((x.H == y.H) && ((x.N == y.N) && ((x.V == y.V) && ((x.U == y.U) && ((x.G == y.G) && ((x.J == y.J) && ((x.T == y.T) && ((x.ret == y.ret) && ((x.give == y.give) && ((x.t0 == y.t0) && (decide (x.l0 = y.l0) && ((x.t1 == y.t1) && (decide (x.l1 = y.l1) && ((x.t2 == y.t2) && (decide (x.l2 = y.l2) && (decide (x.rack = y.rack) && (decide (x.hold = y.hold) && decide (x.read = y.read))))))))))))))))))))))))))
theorem sameW_self (x : Wk) : sameW x x = true := by
  simp only [sameW, beq_self_eq_true, decide_true, Bool.and_self, Bool.and_true]
theorem brAnd {c : Bool} {X : Option (SV × SH)} {q : Bool} (h : X = some (B q, [])) : br (!c) (some (B false, [])) X = some (B (c && q), []) := by
  cases c with
  | true => rw [Bool.not_true, br_f, h, Bool.true_and]
  | false => rw [Bool.not_false, br_t, Bool.false_and]
theorem brAnd' {c : Bool} {X : Option (SV × SH)} {q : Bool} (h : X = some (B q, [])) : br c X (some (B false, [])) = some (B (c && q), []) := by
  cases c with
  | true => rw [br_t, h, Bool.true_and]
  | false => rw [br_f, Bool.false_and]
theorem brOr {c : Bool} {X : Option (SV × SH)} {q : Bool} (h : X = some (B q, [])) : br c (some (B true, [])) X = some (B (c || q), []) := by
  cases c with
  | true => rw [br_t, Bool.true_or]
  | false => rw [br_f, h, Bool.false_or]
theorem v48 {x y : Wk} (h : lenW x = true) : sxFn (E48 (Ω := SV × SH)) (An A48 0) C48 [.agg (encW x), .agg (encW y)] [] (KT 0) = some (B (sameW x y), []) := by
  simp only [lenW, Bool.and_eq_true] at h
  obtain ⟨h1, h2, h3, h4, h5, h6⟩ := h
  rw [n48]
  simp only [h1, h2, h3, h4, h5, h6, br_t]
  unfold sameW
  exact brAnd (brAnd (brAnd (brAnd (brAnd (brAnd (brAnd (brAnd (brAnd (brAnd (brAnd (brAnd (brAnd (brAnd (brAnd (brAnd (brAnd (brAnd (brAnd (brAnd (brAnd (brAnd (brAnd (brAnd (brAnd' (brAnd' (rfl))))))))))))))))))))))))))
def greatW (x : Wk) : Bool := decide ((x.rack.length : Int) > 40) || (decide ((x.hold.length : Int) > 40) || (decide ((x.read.length : Int) > 40) || (decide ((x.l0.length : Int) > 40) || (decide ((x.l1.length : Int) > 40) || decide ((x.l2.length : Int) > 40)))))
theorem v46 {x : Wk} : sxFn (E46 (Ω := SV × SH)) (An A46 0) C46 [.agg (encW x)] [] (KT 0) = some (B (greatW x), []) := by
  rw [n46]
  unfold greatW
  exact brOr (brOr (brOr (brOr (brOr rfl))))
theorem lenW_of {x : Wk} (h : greatW x = false) : lenW x = true := by
  simp only [greatW, Bool.or_eq_false_iff, decide_eq_false_iff_not] at h
  simp only [lenW, Bool.and_eq_true, decide_eq_true_eq]
  omega

/-- No locs. -/
def noLs : SH → List SV → Option (List Nat) := fun _ _ => some []
def F48 : List SV → SH → List Alt := fun a0 h0 => match a0, h0 with
  | [.agg c, .agg d], [] => bif isC ctsW c && isC ctsW d then [(lenW (decW c), B (sameW (decW c) (decW d)), [])] else []
  | _, _ => []
def F46 : List SV → SH → List Alt := fun a0 h0 => match a0, h0 with
  | [.agg c], [] => bif isC ctsW c then [(true, B (greatW (decW c)), [])] else []
  | _, _ => []
theorem bif_nil {α : Type} {b : Bool} {l : List α} {r : SV × SH} {f : List α → Option (SV × SH)} (hf : f [] = none) (h : f (bif b then l else []) = some r) : b = true ∧ f l = some r := by
  cases b with
  | true => exact ⟨rfl, h⟩
  | false => rw [cond_false, hf] at h; cases h
def S48c {Ω : Type} : Spec Ω := memSpec [some ctsW, some ctsW] noLs [] F48
theorem g48c : Good1 Tryz.prog 8 S48c := memGood (A := A48) Tryz.func8 (by kernel_rfl) c48 e48 mix (fun _ _ _ _ i hi => by cases hi) fun a0 h0 r h1 hF => by
  unfold F48 at hF
  split at hF
  · rename_i c d
    obtain ⟨hc, hF⟩ := bif_nil rfl hF
    rw [Bool.and_eq_true] at hc
    cases hl : lenW (decW c) with
    | false => rw [hl] at hF; cases hF
    | true =>
      rw [hl] at hF
      simp only [firstAlt, cond_true, Option.some.injEq, Prod.mk.injEq] at hF
      obtain ⟨rfl, rfl⟩ := hF
      have hv := v48 (y := decW d) hl
      rw [enc_decW hc.1, enc_decW hc.2] at hv
      obtain ⟨H, q3, q4⟩ := kt_of e48 hv
      exact ⟨_, _, H, LeV.refl _, RowEq.refl _, q3, q4⟩
  · cases hF
def S46c {Ω : Type} : Spec Ω := memSpec [some ctsW] noLs [] F46
theorem g46c : Good1 Tryz.prog 6 S46c := memGood (A := A46) Tryz.func6 (by kernel_rfl) c46 e46 mix (fun _ _ _ _ i hi => by cases hi) fun a0 h0 r h1 hF => by
  unfold F46 at hF
  split at hF
  · rename_i c
    obtain ⟨hc, hF⟩ := bif_nil rfl hF
    simp only [firstAlt, cond_true, Option.some.injEq, Prod.mk.injEq] at hF
    obtain ⟨rfl, rfl⟩ := hF
    have hv := v46 (x := decW c)
    rw [enc_decW hc] at hv
    obtain ⟨H, q3, q4⟩ := kt_of e46 hv
    exact ⟨_, _, H, LeV.refl _, RowEq.refl _, q3, q4⟩
  · cases hF
end Go.Sx.Pr

/- Contracts with memory of functions that leave some of the locs as they are. -/
namespace Go.Sx

end Go.Sx

/- All: a copy of a memory's words. -/
namespace Go.Sx.Pr
open Go Go.Sx Go.Sx.Md Go.Proofs
set_option maxRecDepth 100000
end Go.Sx.Pr

/- All's list as data. -/
namespace Go.Sx.Pr
open Go Go.Sx Go.Sx.Md Go.Proofs
set_option maxRecDepth 100000
end Go.Sx.Pr

namespace Go.Sx.Pr
open Go Go.Sx Go.Proofs
set_option maxRecDepth 100000
def K18_1 : CC := .seq (.block 0 (.seq (.reg false [⟨some 14, .mv (.t 7), none, 0⟩,
     ⟨some 15, .eq .int true (.t 14) (.c (.d (.v (.int .i64 0)))), none, 0⟩,
     ⟨some 13, .mv (.t 15), none, 0⟩])
   (.cond 13 (.seq (.reg false [⟨some 16, .mv (.t 7), none, 0⟩,
       ⟨some 4, .mv (.c (.d (.v (.pointer none)))), none, 0⟩,
       ⟨some 5, .mv (.t 16), none, 0⟩])
     (.ret))
     (.seq (.reg false [⟨some 18, .mv (.t 1), none, 0⟩,
       ⟨some 19, .len (.t 18), none, 0⟩,
       ⟨some 20, .ld 8 true (.t 6), none, 0⟩,
       ⟨some 21, .call (.c (.fn (.func 43) [] [])) [.t 20], none, 0⟩,
       ⟨some 22, .eq .int true (.t 19) (.t 21), none, 0⟩,
       ⟨some 17, .mv (.t 22), none, 0⟩])
     (.cond 17 (.seq (.reg false [⟨some 4, .mv (.c (.d (.v (.pointer none)))), none, 0⟩,
         ⟨some 5, .mv (.c (.d (.v (.int .i64 3)))), none, 0⟩])
       (.ret))
       (.skip))))))
 (.seq (.reg true [⟨some 23, .ld 8 true (.t 6), none, 0⟩,
   ⟨some 24, .mv (.t 1), none, 0⟩,
   ⟨some 25, .call (.c (.fn (.func 44) [] [])) [.t 24], none, 2⟩,
   ⟨some 26, .bld [.d (.v (.int .i64 0)), .d (.v (.int .i64 0)), .d (.v (.int .i64 0)), .d (.v (.int .i64 0)), .d (.v (.int .i64 0)), .d (.v (.int .i64 0)), .d (.v (.int .i64 0)), .d (.v (.int .u64 0)), .d (.v (.int .i64 0)), .d (.v (.int .i64 0)), .d (.v (.int .u64 0)), .d (.v (.int .u64 0)), .d (.v (.int .u64 0)), .d (.v (.slice none 0 0))] [(0, 8, .t 23), (13, 1, .t 25)], none, 7⟩,
   ⟨some 27, .box 68 14 (.t 26), none, 15⟩,
   ⟨some 4, .mv (.t 27), none, 31⟩,
   ⟨some 5, .mv (.c (.d (.v (.int .i64 0)))), none, 63⟩])
 (.ret))
def K18_2 : CC := .reg false [⟨some 9, .ld 8 true (.t 2), none, 0⟩,
   ⟨some 10, .call (.c (.fn (.func 42) [] [])) [.t 9], none, 0⟩,
   ⟨some 8, .mv (.t 10), none, 0⟩,
   ⟨some 11, .ext 0 (.t 8), none, 0⟩,
   ⟨some 12, .ext 1 (.t 8), none, 0⟩,
   ⟨some 6, .newc 64 [.d (.v (.int .i64 0)), .d (.v (.int .i64 0)), .d (.v (.int .i64 0)), .d (.v (.int .i64 0)), .d (.v (.int .i64 0)), .d (.v (.int .i64 0)), .d (.v (.int .i64 0)), .d (.v (.int .u64 0))], none, 0⟩,
   ⟨none, .st 8 (.t 6) (.t 11), none, 0⟩,
   ⟨some 7, .mv (.t 12), none, 0⟩]
def K18_3 : CC := .reg false [⟨some 2, .box 24 8 (.t 0), none, 0⟩,
   ⟨some 4, .mv (.c (.d (.v (.pointer none)))), none, 0⟩,
   ⟨some 5, .mv (.c (.d (.v (.int .i64 0)))), none, 0⟩]
/-- coatcheck/memory.From -/
def C18 : CF := ⟨2, [(4, none), (5, none)],
 .seq K18_3 (.seq K18_2 K18_1)⟩
theorem c18 : coF Tryz.prog Tryz.f32 = some C18 := by kernel_rfl
def A18 : Ann := { keep := [0, 1, 2, 4, 5, 6, 7, 13, 17], live := [] }
def E18 {Ω : Type} : Env Ω := econs 44 S65 (econs 42 S63 (econs 43 S64 (enil)))
theorem e18 : GoodE Tryz.prog E18 := GoodE.cons g65 (GoodE.cons g63 (GoodE.cons g64 (GoodE.nil)))
def S18 {Ω : Type} : Spec Ω := inl E18 A18 C18 false
theorem g18 : Good1 Tryz.prog 32 S18 := Good1.inl e18 mix Tryz.func32 (by kernel_rfl) c18 A18 false
/-- coatcheck/memory.New -/
def C34 : CF := ⟨1, [(2, none), (3, none)],
 .seq (.reg false [⟨some 1, .box 24 8 (.t 0), none, 0⟩,
   ⟨some 2, .mv (.c (.d (.v (.pointer none)))), none, 0⟩,
   ⟨some 3, .mv (.c (.d (.v (.int .i64 0)))), none, 0⟩])
 (.seq (.reg true [⟨some 4, .ld 8 true (.t 1), none, 0⟩,
   ⟨some 5, .ld 8 true (.t 1), none, 0⟩,
   ⟨some 6, .call (.c (.fn (.func 33) [] [])) [.t 5], none, 2⟩,
   ⟨some 7, .call (.c (.fn (.func 32) [] [])) [.t 4, .t 6], none, 7⟩,
   ⟨some 8, .ext 0 (.t 7), none, 15⟩,
   ⟨some 9, .ext 1 (.t 7), none, 15⟩,
   ⟨some 2, .mv (.t 8), none, 63⟩,
   ⟨some 3, .mv (.t 9), none, 127⟩])
 (.ret))⟩
theorem c34 : coF Tryz.prog Tryz.f13 = some C34 := by kernel_rfl
def A34 : Ann := { keep := [0, 1, 2, 3], live := [] }
def E34 {Ω : Type} : Env Ω := econs 32 S18 (econs 33 S68 (enil))
theorem e34 : GoodE Tryz.prog E34 := GoodE.cons g18 (GoodE.cons g68 (GoodE.nil))
end Go.Sx.Pr

/- Memory objects with their row's loc. -/
namespace Go.Sx.Pr
open Go Go.Sx Go.Sx.Md
def memC (c : Cf) (s : Ac) (o : Nat) : List SV := [I c.a, I c.b, I c.c, I c.d, I c.e, I c.f, I c.g, U c.l, I s.k, I s.a, U s.x, U s.y, U s.o, .own o]
end Go.Sx.Pr

/- The steps laws: what all of them need. -/
namespace Go.Sx.Pr
open Go Go.Sx Go.Sx.Md Go.Proofs
set_option maxRecDepth 100000

/-- True, with some heap. -/
def Tru (o : Option (SV × SH)) : Prop := ∃ H, o = some (B true, H)
theorem Tru.br {b : Bool} {x y : Option (SV × SH)} (h1 : b = true → Tru x) (h2 : b = false → Tru y) : Tru (br b x y) := by
  cases b with
  | true => exact h1 rfl
  | false => exact h2 rfl
theorem tru_ret {H : SH} : Tru (KS (B true) H) := ⟨H, rfl⟩

def szC (c : Cf) : Int := szZ c.a c.b c.c c.d c.e c.f c.g c.l

/-- What a step leaves well formed. -/
def Pres (m : Mm) (x : Wk) (r : SR) : Prop := okM r.m = true ∧ okW r.x = true ∧ lenW r.x = lenW x ∧ r.m.ws.length = m.ws.length ∧ r.m.c = m.c
theorem Pres.cond {m : Mm} {x : Wk} {a b : SR} {t : Bool} (ha : Pres m x a) (hb : Pres m x b) : Pres m x (bif t then a else b) := by
  cases t with
  | true => exact ha
  | false => exact hb
section
variable {m : Mm} {x : Wk} (hm : okM m = true) (hx : okW x = true)
 include hm hx
end
end Go.Sx.Pr

/- Helpers: results with some heap, sizes, addresses. Plain Lean. -/
namespace Go.Sx.Pr
open Go Go.Sx Go.Sx.Md Go.Proofs
set_option maxRecDepth 100000

/-- A run's result, with some heap. -/
def GivesV (o : Option (SV × SH)) (r : SV) : Prop := ∃ H, o = some (r, H)
theorem givesV {r : SV} {H : SH} : GivesV (KS r H) r := ⟨H, rfl⟩
theorem GivesV.br {b : Bool} {x y : Option (SV × SH)} {r : SV} (h1 : b = true → GivesV x r) (h2 : b = false → GivesV y r) : GivesV (br b x y) r := by
  cases b with
  | true => exact h1 rfl
  | false => exact h2 rfl
theorem bang_t {x y : Int} (h : ¬ x = y) : (!x == y) = true := by simp [h]
theorem bang_f {x y : Int} (h : x = y) : (!x == y) = false := by simp [h]

theorem szC_eq {c : Cf} (h : chkC c = 0) : szC c = ((sizeN c.a.toNat c.b.toNat c.c.toNat c.d.toNat c.e.toNat : Nat) : Int) := by
  have h' : chk c.a c.b c.c c.d c.e c.f c.g c.l = 0 := h
  simp [szC, szZ, h']
theorem inB_of' {i : Int} {n : Nat} (h0 : 0 ≤ i) (h1 : i < n) : inB i n = true := by simp only [inB, Bool.and_eq_true, decide_eq_true_eq]; exact ⟨h0, h1⟩
end Go.Sx.Pr

namespace Go.Sx.Pr
open Go Go.Sx Go.Proofs
set_option maxRecDepth 100000
def K1033_1 : CC := .seq (.reg false [⟨some 12, .ld 8 true (.t 2), none, 0⟩,
   ⟨some 13, .call (.c (.fn (.func 38) [] [])) [.t 12], none, 0⟩,
   ⟨some 14, .eq .int false (.t 13) (.c (.d (.v (.int .i64 0)))), none, 0⟩,
   ⟨some 15, .mv (.t 14), none, 0⟩,
   ⟨some 16, .mv (.t 5), some (15, true), 0⟩,
   ⟨some 17, .bin .geq (.t 16) (.c (.d (.v (.int .i64 0)))), some (15, true), 0⟩,
   ⟨some 18, .pick (.t 15) (.t 17) (.c (.d (.v (.bool false)))), none, 0⟩,
   ⟨some 19, .mv (.t 18), none, 0⟩,
   ⟨some 20, .mv (.t 5), some (19, true), 0⟩,
   ⟨some 21, .fa 4 (.t 2), some (19, true), 0⟩,
   ⟨some 22, .ld 1 false (.t 21), some (19, true), 0⟩,
   ⟨some 23, .bin .lss (.t 20) (.t 22), some (19, true), 0⟩,
   ⟨some 24, .pick (.t 19) (.t 23) (.c (.d (.v (.bool false)))), none, 0⟩,
   ⟨some 25, .mv (.t 24), none, 0⟩,
   ⟨some 26, .mv (.t 6), some (25, true), 0⟩,
   ⟨some 27, .bin .geq (.t 26) (.c (.d (.v (.int .u64 1)))), some (25, true), 0⟩,
   ⟨some 28, .pick (.t 25) (.t 27) (.c (.d (.v (.bool false)))), none, 0⟩,
   ⟨some 29, .mv (.t 28), none, 0⟩,
   ⟨some 30, .mv (.t 6), some (29, true), 0⟩,
   ⟨some 31, .fa 7 (.t 2), some (29, true), 0⟩,
   ⟨some 32, .ld 1 false (.t 31), some (29, true), 0⟩,
   ⟨some 33, .bin .leq (.t 30) (.t 32), some (29, true), 0⟩,
   ⟨some 34, .pick (.t 29) (.t 33) (.c (.d (.v (.bool false)))), none, 0⟩,
   ⟨some 4, .mv (.t 34), none, 0⟩])
 (.ret)
def K1033_2 : CC := .reg false [⟨some 8, .mv (.t 1), none, 0⟩,
   ⟨some 9, .call (.c (.fn (.func 37) [] [])) [.t 8], none, 0⟩,
   ⟨some 7, .mv (.t 9), none, 0⟩,
   ⟨some 10, .ext 0 (.t 7), none, 0⟩,
   ⟨some 11, .ext 1 (.t 7), none, 0⟩,
   ⟨some 5, .mv (.t 10), none, 0⟩,
   ⟨some 6, .mv (.t 11), none, 0⟩]
def K1033_3 : CC := .reg false [⟨some 2, .box 24 8 (.t 0), none, 0⟩,
   ⟨some 4, .mv (.c (.d (.v (.bool false)))), none, 0⟩]
/-- coatcheck/entry.Good -/
def C1033 : CF := ⟨2, [(4, none)],
 .seq K1033_3 (.seq K1033_2 K1033_1)⟩
theorem c1033 : coF Tryz.prog Tryz.f23 = some C1033 := by kernel_rfl
def A1033 : Ann := { keep := [0, 1, 2, 4, 5, 6], live := [] }
def E1033 {Ω : Type} : Env Ω := econs 37 S1068c (econs 38 S106 (enil))
theorem e1033 : GoodE Tryz.prog E1033 := GoodE.cons g1068c (GoodE.cons g106 (GoodE.nil))
end Go.Sx.Pr

namespace Go.Sx.Pr
open Go Go.Sx Go.Proofs
set_option maxRecDepth 100000
def K1034_1 : CC := .seq (.reg false [⟨some 12, .ld 8 true (.t 2), none, 0⟩,
   ⟨some 13, .call (.c (.fn (.func 14) [] [])) [.t 12], none, 0⟩,
   ⟨some 14, .eq .int false (.t 13) (.c (.d (.v (.int .i64 0)))), none, 0⟩,
   ⟨some 15, .mv (.t 14), none, 0⟩,
   ⟨some 16, .mv (.t 5), some (15, true), 0⟩,
   ⟨some 17, .bin .geq (.t 16) (.c (.d (.v (.int .i64 0)))), some (15, true), 0⟩,
   ⟨some 18, .pick (.t 15) (.t 17) (.c (.d (.v (.bool false)))), none, 0⟩,
   ⟨some 19, .mv (.t 18), none, 0⟩,
   ⟨some 20, .mv (.t 5), some (19, true), 0⟩,
   ⟨some 21, .fa 4 (.t 2), some (19, true), 0⟩,
   ⟨some 22, .ld 1 false (.t 21), some (19, true), 0⟩,
   ⟨some 23, .bin .lss (.t 20) (.t 22), some (19, true), 0⟩,
   ⟨some 24, .pick (.t 19) (.t 23) (.c (.d (.v (.bool false)))), none, 0⟩,
   ⟨some 25, .mv (.t 24), none, 0⟩,
   ⟨some 26, .mv (.t 6), some (25, true), 0⟩,
   ⟨some 27, .bin .geq (.t 26) (.c (.d (.v (.int .u64 1)))), some (25, true), 0⟩,
   ⟨some 28, .pick (.t 25) (.t 27) (.c (.d (.v (.bool false)))), none, 0⟩,
   ⟨some 29, .mv (.t 28), none, 0⟩,
   ⟨some 30, .mv (.t 6), some (29, true), 0⟩,
   ⟨some 31, .fa 7 (.t 2), some (29, true), 0⟩,
   ⟨some 32, .ld 1 false (.t 31), some (29, true), 0⟩,
   ⟨some 33, .bin .leq (.t 30) (.t 32), some (29, true), 0⟩,
   ⟨some 34, .pick (.t 29) (.t 33) (.c (.d (.v (.bool false)))), none, 0⟩,
   ⟨some 4, .mv (.t 34), none, 0⟩])
 (.ret)
def K1034_2 : CC := .reg false [⟨some 8, .mv (.t 1), none, 0⟩,
   ⟨some 9, .call (.c (.fn (.func 40) [] [])) [.t 8], none, 0⟩,
   ⟨some 7, .mv (.t 9), none, 0⟩,
   ⟨some 10, .ext 0 (.t 7), none, 0⟩,
   ⟨some 11, .ext 1 (.t 7), none, 0⟩,
   ⟨some 5, .mv (.t 10), none, 0⟩,
   ⟨some 6, .mv (.t 11), none, 0⟩]
def K1034_3 : CC := .reg false [⟨some 2, .box 24 8 (.t 0), none, 0⟩,
   ⟨some 4, .mv (.c (.d (.v (.bool false)))), none, 0⟩]
/-- coatcheck/coatcheckref11.Good -/
def C1034 : CF := ⟨2, [(4, none)],
 .seq K1034_3 (.seq K1034_2 K1034_1)⟩
theorem c1034 : coF Tryz.prog Tryz.f28 = some C1034 := by kernel_rfl
def A1034 : Ann := { keep := [0, 1, 2, 4, 5, 6], live := [] }
def E1034 {Ω : Type} : Env Ω := econs 40 S1035c (econs 14 S19 (enil))
theorem e1034 : GoodE Tryz.prog E1034 := GoodE.cons g1035c (GoodE.cons g19 (GoodE.nil))
end Go.Sx.Pr

/- Contracts: a ticket's form, and the block of a live ticket, program and document. -/
namespace Go.Sx.Pr
open Go Go.Sx Go.Sx.Md Go.Proofs
set_option maxRecDepth 100000

theorem n1033 {Ω : Type} (it : Itr Ω) (K : SV → SH → Option Ω) (c : Cf) (t : Int) :
    sxFnI it E1033 A1033 C1033 [.agg (encC c), U t] [] K =
    br (uB t) (br (chkC c == 0) (br (decide (t % 65536 - 1 ≥ 0)) (br (decide (t % 65536 - 1 < Cf.e c)) (br (decide (t / 65536 ≥ 1)) (K (B (decide (t / 65536 ≤ Cf.l c))) [.cells 24 (encC c)]) (K (B false) [.cells 24 (encC c)])) (K (B false) [.cells 24 (encC c)])) (K (B false) [.cells 24 (encC c)])) (K (B false) [.cells 24 (encC c)])) none := by kernel_rfl
theorem n1034 {Ω : Type} (it : Itr Ω) (K : SV → SH → Option Ω) (c : Cf) (t : Int) :
    sxFnI it E1034 A1034 C1034 [.agg (encC c), U t] [] K =
    br (uB t) (br (chkC c == 0) (br (decide (t % 65536 - 1 ≥ 0)) (br (decide (t % 65536 - 1 < Cf.e c)) (br (decide (t / 65536 ≥ 1)) (K (B (decide (t / 65536 ≤ Cf.l c))) [.cells 24 (encC c)]) (K (B false) [.cells 24 (encC c)])) (K (B false) [.cells 24 (encC c)])) (K (B false) [.cells 24 (encC c)])) (K (B false) [.cells 24 (encC c)])) none := by kernel_rfl
/-- Is a ticket well-formed? -/
def goodV (c : Cf) (t : Int) : Bool := (chkC c == 0) && (decide (t % 65536 - 1 ≥ 0) && (decide (t % 65536 - 1 < c.e) && (decide (t / 65536 ≥ 1) && decide (t / 65536 ≤ c.l))))
section
variable {c : Cf} {ws : List Int} {t : Int}
theorem v1033 (h : uB t = true) : GivesV (sxFn E1033 A1033 C1033 [.agg (encC c), U t] [] KS) (B (goodV c t)) := by
  rw [← sxFnI_eq, n1033, h, br_t]
  unfold goodV
  cases (chkC c == 0) <;> cases decide (t % 65536 - 1 ≥ 0) <;> cases decide (t % 65536 - 1 < c.e) <;> cases decide (t / 65536 ≥ 1) <;> exact givesV
theorem v1034 (h : uB t = true) : GivesV (sxFn E1034 A1034 C1034 [.agg (encC c), U t] [] KS) (B (goodV c t)) := by
  rw [← sxFnI_eq, n1034, h, br_t]
  unfold goodV
  cases (chkC c == 0) <;> cases decide (t % 65536 - 1 ≥ 0) <;> cases decide (t % 65536 - 1 < c.e) <;> cases decide (t / 65536 ≥ 1) <;> exact givesV
end
def F1033v : List (List Int) → Option (Bool × SV × SH)
  | [[c_a, c_b, c_c, c_d, c_e, c_f, c_g, c_l], [t]] => let c := (⟨c_a, c_b, c_c, c_d, c_e, c_f, c_g, c_l⟩ : Md.Cf); some (uB t, B (goodV c t), [])
  | _ => none
def S1033c {Ω : Type} : Spec Ω := conSpec [.g cfgK, .i .u64] F1033v
theorem g1033c : Good1 Tryz.prog 23 S1033c := conGood Tryz.func23 (by kernel_rfl) c1033 e1033 mix (A := A1033) fun L r hr hl hF => by
  obtain ⟨q0, l0, rfl, z0, hl1⟩ := lenAs_cons hl
  obtain ⟨c_a, c_b, c_c, c_d, c_e, c_f, c_g, c_l, rfl⟩ := eight z0
  obtain ⟨q1, l1, rfl, z1, hl2⟩ := lenAs_cons hl1
  obtain ⟨t, rfl⟩ := one_of' z1
  have hz := lenAs_nil hl2
  subst hz
  simp only [F1033v, Option.some.injEq, Prod.mk.injEq] at hF
  obtain ⟨hu, rfl, rfl⟩ := hF
  obtain ⟨H, hH⟩ := v1033 (c := (⟨c_a, c_b, c_c, c_d, c_e, c_f, c_g, c_l⟩ : Md.Cf)) (t := t) (by first | exact hu | exact rfl)
  exact ⟨by first | exact trivial | exact ⟨trivial, trivial⟩ | exact ⟨trivial, trivial, trivial⟩ | exact ⟨trivial, trivial, trivial, trivial⟩, trivial, H, trim_none rfl _, hH⟩

def F1034v : List (List Int) → Option (Bool × SV × SH)
  | [[c_a, c_b, c_c, c_d, c_e, c_f, c_g, c_l], [t]] => let c := (⟨c_a, c_b, c_c, c_d, c_e, c_f, c_g, c_l⟩ : Md.Cf); some (uB t, B (goodV c t), [])
  | _ => none
def S1034c {Ω : Type} : Spec Ω := conSpec [.g cfgK, .i .u64] F1034v
theorem g1034c : Good1 Tryz.prog 28 S1034c := conGood Tryz.func28 (by kernel_rfl) c1034 e1034 mix (A := A1034) fun L r hr hl hF => by
  obtain ⟨q0, l0, rfl, z0, hl1⟩ := lenAs_cons hl
  obtain ⟨c_a, c_b, c_c, c_d, c_e, c_f, c_g, c_l, rfl⟩ := eight z0
  obtain ⟨q1, l1, rfl, z1, hl2⟩ := lenAs_cons hl1
  obtain ⟨t, rfl⟩ := one_of' z1
  have hz := lenAs_nil hl2
  subst hz
  simp only [F1034v, Option.some.injEq, Prod.mk.injEq] at hF
  obtain ⟨hu, rfl, rfl⟩ := hF
  obtain ⟨H, hH⟩ := v1034 (c := (⟨c_a, c_b, c_c, c_d, c_e, c_f, c_g, c_l⟩ : Md.Cf)) (t := t) (by first | exact hu | exact rfl)
  exact ⟨by first | exact trivial | exact ⟨trivial, trivial⟩ | exact ⟨trivial, trivial, trivial⟩ | exact ⟨trivial, trivial, trivial, trivial⟩, trivial, H, trim_none rfl _, hH⟩

end Go.Sx.Pr

/- The contract of memory.New. -/
namespace Go.Sx.Pr
open Go Go.Sx Go.Sx.Md Go.Proofs
set_option maxRecDepth 100000

theorem n34 {Ω : Type} (it : Itr Ω) (K : SV → SH → Option Ω) (c : Cf) :
    sxFnI it E34 A34 C34 [.agg (encC c)] [] K =
    br (!chkC c == 0) (br (!chkC c == 0) (br (!chkC c == 0) (K (.tup [.d (DV.v (Value.pointer none)), I (chkC c)]) [.cells 24 (encC c)]) (K (.tup [.ptr 4 0, I 0]) [.cells 24 (encC c), .dead, .dead, .rowi 22 .u64 [], .cells 68 [I 0, I 0, I 0, I 0, I 0, I 0, I 0, U 0, I 0, I 0, U 0, U 0, U 0, .own 3]])) (br (!0 == szC c) (K (.tup [.d (DV.v (Value.pointer none)), I 3]) [.cells 24 (encC c)]) (K (.tup [.ptr 4 0, I 0]) [.cells 24 (encC c), .dead, .dead, .rowi 22 .u64 [], .cells 68 (memC c ac0 3)]))) (br (!chkC c == 0) (br (!chkC c == 0) (K (.tup [.d (DV.v (Value.pointer none)), I (chkC c)]) [.cells 24 (encC c), .dead, .dead, .rowi 22 .u64 (fl (sizeN (Int.toNat (Cf.a c)) (Int.toNat (Cf.b c)) (Int.toNat (Cf.c c)) (Int.toNat (Cf.d c)) (Int.toNat (Cf.e c))) (3 + Int.toNat (Cf.a c) + Int.toNat (Cf.b c)) (Int.toNat (Cf.e c)) (Int.toNat (Cf.e c)))]) (br (! (↑ (List.length (fl (sizeN (Int.toNat (Cf.a c)) (Int.toNat (Cf.b c)) (Int.toNat (Cf.c c)) (Int.toNat (Cf.d c)) (Int.toNat (Cf.e c))) (3 + Int.toNat (Cf.a c) + Int.toNat (Cf.b c)) (Int.toNat (Cf.e c)) (Int.toNat (Cf.e c)))) : Int) == 0) (K (.tup [.d (DV.v (Value.pointer none)), I 3]) [.cells 24 (encC c), .dead, .dead, .rowi 22 .u64 (fl (sizeN (Int.toNat (Cf.a c)) (Int.toNat (Cf.b c)) (Int.toNat (Cf.c c)) (Int.toNat (Cf.d c)) (Int.toNat (Cf.e c))) (3 + Int.toNat (Cf.a c) + Int.toNat (Cf.b c)) (Int.toNat (Cf.e c)) (Int.toNat (Cf.e c)))]) (br (fits (List.length (fl (sizeN (Int.toNat (Cf.a c)) (Int.toNat (Cf.b c)) (Int.toNat (Cf.c c)) (Int.toNat (Cf.d c)) (Int.toNat (Cf.e c))) (3 + Int.toNat (Cf.a c) + Int.toNat (Cf.b c)) (Int.toNat (Cf.e c)) (Int.toNat (Cf.e c)))) 8) (K (.tup [.ptr 7 0, I 0]) [.cells 24 (encC c), .dead, .dead, .rowi 22 .u64 (fl (sizeN (Int.toNat (Cf.a c)) (Int.toNat (Cf.b c)) (Int.toNat (Cf.c c)) (Int.toNat (Cf.d c)) (Int.toNat (Cf.e c))) (3 + Int.toNat (Cf.a c) + Int.toNat (Cf.b c)) (Int.toNat (Cf.e c)) (Int.toNat (Cf.e c))), .dead, .dead, .rowi 22 .u64 (fl (sizeN (Int.toNat (Cf.a c)) (Int.toNat (Cf.b c)) (Int.toNat (Cf.c c)) (Int.toNat (Cf.d c)) (Int.toNat (Cf.e c))) (3 + Int.toNat (Cf.a c) + Int.toNat (Cf.b c)) (Int.toNat (Cf.e c)) (Int.toNat (Cf.e c))), .cells 68 [I 0, I 0, I 0, I 0, I 0, I 0, I 0, U 0, I 0, I 0, U 0, U 0, U 0, .own 6]]) none))) (br (! (↑ (List.length (fl (sizeN (Int.toNat (Cf.a c)) (Int.toNat (Cf.b c)) (Int.toNat (Cf.c c)) (Int.toNat (Cf.d c)) (Int.toNat (Cf.e c))) (3 + Int.toNat (Cf.a c) + Int.toNat (Cf.b c)) (Int.toNat (Cf.e c)) (Int.toNat (Cf.e c)))) : Int) == szC c) (K (.tup [.d (DV.v (Value.pointer none)), I 3]) [.cells 24 (encC c), .dead, .dead, .rowi 22 .u64 (fl (sizeN (Int.toNat (Cf.a c)) (Int.toNat (Cf.b c)) (Int.toNat (Cf.c c)) (Int.toNat (Cf.d c)) (Int.toNat (Cf.e c))) (3 + Int.toNat (Cf.a c) + Int.toNat (Cf.b c)) (Int.toNat (Cf.e c)) (Int.toNat (Cf.e c)))]) (br (fits (List.length (fl (sizeN (Int.toNat (Cf.a c)) (Int.toNat (Cf.b c)) (Int.toNat (Cf.c c)) (Int.toNat (Cf.d c)) (Int.toNat (Cf.e c))) (3 + Int.toNat (Cf.a c) + Int.toNat (Cf.b c)) (Int.toNat (Cf.e c)) (Int.toNat (Cf.e c)))) 8) (K (.tup [.ptr 7 0, I 0]) [.cells 24 (encC c), .dead, .dead, .rowi 22 .u64 (fl (sizeN (Int.toNat (Cf.a c)) (Int.toNat (Cf.b c)) (Int.toNat (Cf.c c)) (Int.toNat (Cf.d c)) (Int.toNat (Cf.e c))) (3 + Int.toNat (Cf.a c) + Int.toNat (Cf.b c)) (Int.toNat (Cf.e c)) (Int.toNat (Cf.e c))), .dead, .dead, .rowi 22 .u64 (fl (sizeN (Int.toNat (Cf.a c)) (Int.toNat (Cf.b c)) (Int.toNat (Cf.c c)) (Int.toNat (Cf.d c)) (Int.toNat (Cf.e c))) (3 + Int.toNat (Cf.a c) + Int.toNat (Cf.b c)) (Int.toNat (Cf.e c)) (Int.toNat (Cf.e c))), .cells 68 (memC c ac0 6)]) none))) := by kernel_rfl

/-- A new memory's words. -/
def flC (c : Cf) : List Int := fl (sizeN c.a.toNat c.b.toNat c.c.toNat c.d.toNat c.e.toNat) (3 + c.a.toNat + c.b.toNat) c.e.toNat c.e.toNat
theorem flC_len {c : Cf} (h : chkC c = 0) : ((flC c).length : Int) = szC c := by unfold flC; rw [fl_length, szC_eq h]
theorem szC_le {c : Cf} (h : chkC c = 0) : szC c ≤ 1000 := by
  have := size_le (a := c.a) (b := c.b) (c := c.c) (d := c.d) (e := c.e) (f := c.f) (g := c.g) (l := c.l) h
  have h2 := szC_eq h
  omega
def NAlts (c : Cf) : List (Bool × SV × SH) :=
  [(!(chkC c == 0), .tup [.d (.v (.pointer none)), I (chkC c)], []), (true, .tup [.ptr 7 0, I 0], [.dead, .dead, .dead, .dead, .dead, .dead, .rowi 22 .u64 (flC c), .cells 68 (memC c ac0 6)])]
def F34 : List (List Int) → List (Bool × SV × SH)
  | [[a, b, c, d, e, f, g, l]] => NAlts ⟨a, b, c, d, e, f, g, l⟩
  | _ => []
def S34c {Ω : Type} : Spec Ω := conSpecL [.g cfgK] F34
theorem good34 {c : Cf} (h : chkC c = 0) : sxFn E34 A34 C34 [.agg (encC c)] [] KS = some (.tup [.ptr 7 0, I 0], [.cells 24 (encC c), .dead, .dead, .rowi 22 .u64 (flC c), .dead, .dead, .rowi 22 .u64 (flC c), .cells 68 (memC c ac0 6)]) := by
  have h1 := flC_len h
  have h2 := szC_le h
  rw [← sxFnI_eq, n34, bang_f h, br_f, br_f]
  rw [show fl (sizeN (Int.toNat (Cf.a c)) (Int.toNat (Cf.b c)) (Int.toNat (Cf.c c)) (Int.toNat (Cf.d c)) (Int.toNat (Cf.e c))) (3 + Int.toNat (Cf.a c) + Int.toNat (Cf.b c)) (Int.toNat (Cf.e c)) (Int.toNat (Cf.e c)) = flC c from rfl]
  rw [bang_f h1, br_f, fits_of (by omega), br_t]
theorem bad34 {c : Cf} (h : ¬ chkC c = 0) : sxFn E34 A34 C34 [.agg (encC c)] [] KS = some (.tup [.d (.v (.pointer none)), I (chkC c)], [.cells 24 (encC c)]) := by
  rw [← sxFnI_eq, n34, bang_t h, br_t, br_t, br_t]
theorem g34c : Good1 Tryz.prog 13 S34c := conGoodL Tryz.func13 (by kernel_rfl) c34 e34 mix (A := A34) fun L r hr hl hF => by
  obtain ⟨q0, l0, rfl, z0, hl1⟩ := lenAs_cons hl
  obtain ⟨a, b, c, d, e, f, g, l, rfl⟩ := eight z0
  have hz := lenAs_nil hl1
  subst hz
  simp only [F34, NAlts, firstAlt] at hF
  by_cases h0 : chkC ⟨a, b, c, d, e, f, g, l⟩ = 0
  · rw [bang_f h0, cond_false, cond_true] at hF
    simp only [Option.some.injEq, Prod.mk.injEq] at hF
    obtain ⟨rfl, rfl⟩ := hF
    have hv := good34 h0
    generalize flC ⟨a, b, c, d, e, f, g, l⟩ = W at *
    refine ⟨⟨trivial, trivial, trivial⟩, ⟨trivial, trivial, trivial, trivial, trivial, trivial, trivial, ⟨trivial, trivial, trivial, trivial, trivial, trivial, trivial, trivial, trivial, trivial, trivial, trivial, trivial, trivial, trivial⟩, trivial⟩, [.dead, .dead, .dead, .dead, .dead, .dead, .rowi 22 .u64 W, .cells 68 (memC ⟨a, b, c, d, e, f, g, l⟩ ac0 6)], [.cells 24 (encC ⟨a, b, c, d, e, f, g, l⟩), .dead, .dead, .rowi 22 .u64 W, .dead, .dead, .rowi 22 .u64 W, .cells 68 (memC ⟨a, b, c, d, e, f, g, l⟩ ac0 6)], RowEq.refl _, ?_, hv⟩
    kernel_rfl
  · rw [bang_t h0, cond_true] at hF
    simp only [Option.some.injEq, Prod.mk.injEq] at hF
    obtain ⟨rfl, rfl⟩ := hF
    have hv := bad34 h0
    exact ⟨⟨trivial, trivial, trivial⟩, trivial, [], [.cells 24 (encC ⟨a, b, c, d, e, f, g, l⟩)], RowEq.refl _, trim_none rfl _, hv⟩
end Go.Sx.Pr
