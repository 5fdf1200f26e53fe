/- Contracts: the document's Low and power. -/
import Derived.Test.YtljmncdlehinnaaM5
set_option linter.unusedVariables false
set_option linter.unusedSimpArgs false
namespace Go.Sx.Pr
open Go Go.Sx Go.Proofs
set_option maxRecDepth 100000

abbrev S80s (w bits n i : Int) : SS := ⟨[(0, U w), (1, I bits), (5, U n), (6, I i)], []⟩
abbrev S83s (bits n i : Int) : SS := ⟨[(0, I bits), (3, U n), (4, I i)], []⟩
theorem l80 {Ω : Type} (it : Itr Ω) (K : SV → SH → Option Ω) (w bits : Int) :
    sxFnI it E80 A80 C80 [U w, I bits] [] K =
    it [0, 1, 5, 6] 0 (sxI it E80 A80 L80_2 0) (SS.mk [(0, U w), (1, I bits), (5, U 1), (6, I 0)] []) (Z80_2 it K) := by kernel_rfl
theorem l80_1 {Ω : Type} (it : Itr Ω) (IT : SS → Option Ω) (K : SV → SH → Option Ω) (w bits n i : Int) :
    sxI it E80 A80 L80_2 0 (S80s w bits n i) (kitV [0, 1, 5, 6] 0 IT (Z80_2 it K)) =
    br (decide (i < bits)) (IT (SS.mk [(0, U w), (1, I bits), (5, U (IntKind.wrap .u64 (n * 2))), (6, I (IntKind.wrap .i64 (i + 1)))] [])) (br (decide (bits > 63)) (K (U w) []) (br (n == 0) none (K (U (Int.tmod w n)) []))) := by kernel_rfl
theorem l83 {Ω : Type} (it : Itr Ω) (K : SV → SH → Option Ω) (bits : Int) :
    sxFnI it E83 A83 C83 [I bits] [] K =
    it [0, 3, 4] 0 (sxI it E83 A83 L83_2 0) (SS.mk [(0, I bits), (3, U 1), (4, I 0)] []) (Z83_2 it K) := by kernel_rfl
theorem l83_1 {Ω : Type} (it : Itr Ω) (IT : SS → Option Ω) (K : SV → SH → Option Ω) (bits n i : Int) :
    sxI it E83 A83 L83_2 0 (S83s bits n i) (kitV [0, 3, 4] 0 IT (Z83_2 it K)) =
    br (decide (i < bits)) (IT (SS.mk [(0, I bits), (3, U (IntKind.wrap .u64 (n * 2))), (4, I (IntKind.wrap .i64 (i + 1)))] [])) (K (U n) []) := by kernel_rfl

theorem pow_le {i : Nat} (h : i ≤ 63) : (2 : Int) ^ i ≤ 9223372036854775808 := by
  have := Nat.pow_le_pow_right (show 0 < 2 by omega) h
  have e : ((2 ^ i : Nat) : Int) = (2 : Int) ^ i := by push_cast; rfl
  rw [← e]
  omega

theorem pow_pos' (i : Nat) : (1 : Int) ≤ 2 ^ i := by
  have := Nat.pow_pos (show 0 < 2 by omega) (n := i)
  have e : ((2 ^ i : Nat) : Int) = (2 : Int) ^ i := by push_cast; rfl
  rw [← e]
  omega

theorem dbl {i : Nat} (h : i + 1 ≤ 63) : IntKind.wrap .u64 ((2 : Int) ^ i * 2) = 2 ^ (i + 1) := by
  rw [← Int.pow_succ]
  have := pow_le h
  have := pow_pos' (i + 1)
  rw [IntKind.wrap_u64]
  omega

theorem v80 {w : Int} {n : Nat} (hw : 0 ≤ w) (hn : n ≤ 63) : sxFn E80 A80 C80 [U w, I n] [] KS = some (U (w % 2 ^ n), []) := by
  rw [← sxFnI_eq, l80, itB_def]
  obtain ⟨N, h⟩ := loop_n (f := sxI itB E80 A80 L80_2 0) (lv := [0, 1, 5, 6]) (n0 := 0) (k := Z80_2 itB KS) (fun i => S80s w n (2 ^ i) (i : Int)) big n (by unfold big; omega) (fun i hi I => by
    rw [l80_1, decide_eq_true (by omega), br_t, dbl (by omega), w64 (by omega) (by omega)]; rfl)
  refine Eq.trans h ?_
  rw [l80_1, decide_eq_false (by omega), br_f]
  have h1 : decide ((n : Int) > 63) = false := by simp; omega
  have h2 : ((2 : Int) ^ n == 0) = false := by
    have := pow_pos' n
    simp; omega
  rw [h1, h2, br_f, br_f, Int.tmod_eq_emod_of_nonneg hw]

theorem v83 {n : Nat} (hn : n ≤ 63) : sxFn E83 A83 C83 [I n] [] KS = some (U (2 ^ n), []) := by
  rw [← sxFnI_eq, l83, itB_def]
  obtain ⟨N, h⟩ := loop_n (f := sxI itB E83 A83 L83_2 0) (lv := [0, 3, 4]) (n0 := 0) (k := Z83_2 itB KS) (fun i => S83s n (2 ^ i) (i : Int)) big n (by unfold big; omega) (fun i hi I => by
    rw [l83_1, decide_eq_true (by omega), br_t, dbl (by omega), w64 (by omega) (by omega)]; rfl)
  refine Eq.trans h ?_
  rw [l83_1, decide_eq_false (by omega), br_f]

def FLow : List (List Int) → Option (Bool × SV × SH)
  | [[w], [bits]] => some (decide (0 ≤ w) && (decide (0 ≤ bits) && decide (bits ≤ 63)), U (w % 2 ^ bits.toNat), [])
  | _ => none
def FPow : List (List Int) → Option (Bool × SV × SH)
  | [[bits]] => some (decide (0 ≤ bits) && decide (bits ≤ 63), U (2 ^ bits.toNat), [])
  | _ => none
theorem one_of' {α : Type} {l : List α} (h : l.length = 1) : ∃ a, l = [a] := by
  match l, h with
  | [a], _ => exact ⟨a, rfl⟩
def S80c {Ω : Type} : Spec Ω := conSpec [.i .u64, .i .i64] FLow
theorem g80c : Good1 Try.prog 66 S80c := conGood Try.func66 (by kernel_rfl) c80 e80 mix (A := A80) fun L r hr hl hF => by
  obtain ⟨p, q, rfl, hp, s, q2, rfl, hs, hq⟩ := hl
  simp only [lenAs] at hq
  subst hq
  obtain ⟨w, rfl⟩ := one_of' hp
  obtain ⟨bits, rfl⟩ := one_of' hs
  simp only [FLow, Option.some.injEq, Prod.mk.injEq, Bool.and_eq_true, decide_eq_true_eq] at hF
  obtain ⟨⟨h0, h1, h2⟩, rfl, rfl⟩ := hF
  obtain ⟨n, rfl⟩ := Int.eq_ofNat_of_zero_le h1
  exact ⟨trivial, trivial, _, trim_none rfl _, v80 h0 (by omega)⟩
def S83c {Ω : Type} : Spec Ω := conSpec [.i .i64] FPow
theorem g83c : Good1 Try.prog 67 S83c := conGood Try.func67 (by kernel_rfl) c83 e83 mix (A := A83) fun L r hr hl hF => by
  obtain ⟨p, q, rfl, hp, hq⟩ := hl
  simp only [lenAs] at hq
  subst hq
  obtain ⟨bits, rfl⟩ := one_of' hp
  simp only [FPow, Option.some.injEq, Prod.mk.injEq, Bool.and_eq_true, decide_eq_true_eq] at hF
  obtain ⟨⟨h1, h2⟩, rfl, rfl⟩ := hF
  obtain ⟨n, rfl⟩ := Int.eq_ofNat_of_zero_le h1
  exact ⟨trivial, trivial, _, trim_none rfl _, v83 (by omega)⟩
end Go.Sx.Pr
