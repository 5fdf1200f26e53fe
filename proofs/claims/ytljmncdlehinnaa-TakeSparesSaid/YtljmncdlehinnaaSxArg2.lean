/- Pieces of the code of functions, compiled for the symbolic interpreter, each checked against the program; no conditions. -/
import Derived.Test.YtljmncdlehinnaaN4
import Derived.Test.YtljmncdlehinnaaRows
import Derived.KernelRfl
import Derived.Test.YtljmncdlehinnaaN4
import Derived.Test.YtljmncdlehinnaaN4
set_option linter.all false
set_option linter.unusedVariables false
set_option linter.unusedSimpArgs false
set_option linter.unnecessarySimpa false
namespace Go.Sx.Pr
open Go Go.Sx Go.Proofs
set_option maxRecDepth 100000
/-- (coatcheck/plan.Plan).Slab -/
def C95 : CF := ⟨2, [(4, none)],
 .seq (.reg false [⟨some 2, .box 75 8 (.t 0), none, 0⟩,
   ⟨some 4, .mv (.c (.d (.v (.int .i64 0)))), none, 0⟩])
 (.seq (.reg true [⟨some 5, .ld 8 true (.t 2), none, 0⟩,
   ⟨some 6, .ld 8 true (.t 2), none, 0⟩,
   ⟨some 7, .call (.c (.fn (.func 99) [] [])) [.t 6], none, 2⟩,
   ⟨some 8, .mv (.t 1), none, 0⟩,
   ⟨some 9, .fa 0 (.t 2), none, 0⟩,
   ⟨some 10, .fa 1 (.t 9), none, 16⟩,
   ⟨some 11, .ld 1 false (.t 10), none, 48⟩,
   ⟨some 12, .call (.c (.fn (.func 89) [] [])) [.t 5, .t 7, .t 8, .t 11, .c (.d (.v (.int .i64 1)))], none, 127⟩,
   ⟨some 4, .mv (.t 12), none, 255⟩])
 (.ret))⟩
theorem c95 : coF Try.prog Try.f56 = some C95 := by kernel_rfl
def A95 : Ann := { keep := [0, 1, 2, 4], live := [] }
def E95 {Ω : Type} : Env Ω := econs 89 S122 (econs 99 S125 (enil))
theorem e95 : GoodE Try.prog E95 := GoodE.cons g122 (GoodE.cons g125 (GoodE.nil))
/-- (coatcheck/plan.Plan).BlockLink -/
def C117 : CF := ⟨2, [(4, none)],
 .seq (.reg false [⟨some 2, .box 75 8 (.t 0), none, 0⟩,
   ⟨some 4, .mv (.c (.d (.v (.int .i64 0)))), none, 0⟩])
 (.seq (.reg true [⟨some 5, .ld 8 true (.t 2), none, 0⟩,
   ⟨some 6, .ld 8 true (.t 2), none, 0⟩,
   ⟨some 7, .call (.c (.fn (.func 105) [] [])) [.t 6], none, 2⟩,
   ⟨some 8, .mv (.t 1), none, 0⟩,
   ⟨some 9, .ld 8 true (.t 2), none, 0⟩,
   ⟨some 10, .call (.c (.fn (.func 106) [] [])) [.t 9], none, 22⟩,
   ⟨some 11, .fa 0 (.t 2), none, 0⟩,
   ⟨some 12, .fa 3 (.t 11), none, 64⟩,
   ⟨some 13, .ld 1 false (.t 12), none, 192⟩,
   ⟨some 14, .bin .add (.c (.d (.v (.int .i64 1)))) (.t 13), none, 448⟩,
   ⟨some 15, .call (.c (.fn (.func 89) [] [])) [.t 5, .t 7, .t 8, .t 10, .t 14], none, 1023⟩,
   ⟨some 4, .mv (.t 15), none, 2047⟩])
 (.ret))⟩
theorem c117 : coF Try.prog Try.f100 = some C117 := by kernel_rfl
def A117 : Ann := { keep := [0, 1, 2, 4], live := [] }
def E117 {Ω : Type} : Env Ω := econs 105 S107 (econs 106 S108 (econs 89 S122 (enil)))
theorem e117 : GoodE Try.prog E117 := GoodE.cons g107 (GoodE.cons g108 (GoodE.cons g122 (GoodE.nil)))
end Go.Sx.Pr

/- Contracts: the plan's addresses are the document's. -/
namespace Go.Sx.Pr
open Go Go.Sx Go.Proofs
set_option maxRecDepth 100000

theorem u95 {Ω : Type} (it : Itr Ω) (K : SV → SH → Option Ω) (a b c d e f g l i : Int) :
    sxFnI it E95 A95 C95 [cfgS a b c d e f g l, I i] [] K =
    br (decide (i < 0)) (K (I (-1)) [.cells 75 [I a, I b, I c, I d, I e, I f, I g, U l]]) (br (decide (i ≥ b)) (K (I (-1)) [.cells 75 [I a, I b, I c, I d, I e, I f, I g, U l]]) (br (!chk a b c d e f g l == 0) (K (I (-1)) [.cells 75 [I a, I b, I c, I d, I e, I f, I g, U l]]) (K (I (IntKind.wrap .i64 (IntKind.wrap .i64 (3 + a) + IntKind.wrap .i64 (i * 1)))) [.cells 75 [I a, I b, I c, I d, I e, I f, I g, U l]]))) := by kernel_rfl
theorem u112 {Ω : Type} (it : Itr Ω) (K : SV → SH → Option Ω) (a b c d e f g l i : Int) :
    sxFnI it E112 A112 C112 [cfgS a b c d e f g l, I i] [] K =
    br (decide (i < 0)) (K (I (-1)) [.cells 75 [I a, I b, I c, I d, I e, I f, I g, U l]]) (br (decide (i ≥ e)) (K (I (-1)) [.cells 75 [I a, I b, I c, I d, I e, I f, I g, U l]]) (br (!chk a b c d e f g l == 0) (K (I (-1)) [.cells 75 [I a, I b, I c, I d, I e, I f, I g, U l]]) (K (I (IntKind.wrap .i64 (IntKind.wrap .i64 (IntKind.wrap .i64 (IntKind.wrap .i64 (3 + a) + b) + 1) + IntKind.wrap .i64 (i * 2)))) [.cells 75 [I a, I b, I c, I d, I e, I f, I g, U l]]))) := by kernel_rfl
theorem u117 {Ω : Type} (it : Itr Ω) (K : SV → SH → Option Ω) (a b c d e f g l i : Int) :
    sxFnI it E117 A117 C117 [cfgS a b c d e f g l, I i] [] K =
    br (!chk a b c d e f g l == 0) (br (decide (i < 0)) (K (I (-1)) [.cells 75 [I a, I b, I c, I d, I e, I f, I g, U l]]) (br (decide (i ≥ 0)) (K (I (-1)) [.cells 75 [I a, I b, I c, I d, I e, I f, I g, U l]]) (br (!chk a b c d e f g l == 0) (K (I (-1)) [.cells 75 [I a, I b, I c, I d, I e, I f, I g, U l]]) (K (I (IntKind.wrap .i64 (IntKind.wrap .i64 (IntKind.wrap .i64 (IntKind.wrap .i64 (3 + a) + b) + IntKind.wrap .i64 (2 * e)) + IntKind.wrap .i64 (i * IntKind.wrap .i64 (1 + d))))) [.cells 75 [I a, I b, I c, I d, I e, I f, I g, U l]])))) (br (decide (i < 0)) (K (I (-1)) [.cells 75 [I a, I b, I c, I d, I e, I f, I g, U l]]) (br (decide (i ≥ IntKind.wrap .i64 (b * c))) (K (I (-1)) [.cells 75 [I a, I b, I c, I d, I e, I f, I g, U l]]) (br (!chk a b c d e f g l == 0) (K (I (-1)) [.cells 75 [I a, I b, I c, I d, I e, I f, I g, U l]]) (K (I (IntKind.wrap .i64 (IntKind.wrap .i64 (IntKind.wrap .i64 (IntKind.wrap .i64 (3 + a) + b) + IntKind.wrap .i64 (2 * e)) + IntKind.wrap .i64 (i * IntKind.wrap .i64 (1 + d))))) [.cells 75 [I a, I b, I c, I d, I e, I f, I g, U l]])))) := by kernel_rfl

theorem atV_bad {a b c d e f g l k x y : Int} (h : ¬ chk a b c d e f g l = 0) : atV a b c d e f g l k x y = -1 := by
  unfold atV
  rw [show (chk a b c d e f g l == 0) = false by simp [h], cond_false]

abbrev H49 (a b c d e f g l : Int) : SH := [.cells 75 [I a, I b, I c, I d, I e, I f, I g, U l]]
section
variable {Ω : Type} (K : SV → SH → Option Ω) (a b c d e f g l i : Int)
theorem x95 : sxFn E95 A95 C95 [cfgS a b c d e f g l, I i] [] K = K (I (atV a b c d e f g l 2 i 0)) (H49 a b c d e f g l) := by
  rw [← sxFnI_eq, u95]
  by_cases hc : chk a b c d e f g l = 0
  · rw [at2 hc]
    obtain ⟨⟨a1, a2⟩, ⟨b1, b2⟩, ⟨c1, c2⟩, ⟨d1, d2⟩, ⟨e1, e2⟩, _⟩ := chk_zero hc
    by_cases h1 : i < 0
    · rw [decide_eq_true h1, br_t, if_neg (by omega)]
    · rw [decide_eq_false h1, br_f]
      by_cases h2 : i ≥ b
      · rw [decide_eq_true h2, br_t, if_neg (by omega)]
      · have hv : IntKind.wrap .i64 (IntKind.wrap .i64 (3 + a) + IntKind.wrap .i64 (i * 1)) = 3 + a + i := by rw [w64 (x := 3 + a) (by omega) (by omega), w64 (x := i * 1) (by omega) (by omega), w64 (by omega) (by omega)]; omega
        rw [decide_eq_false h2, br_f, show (!chk a b c d e f g l == 0) = false by simp [hc], br_f, hv, if_pos (by omega)]
  · rw [atV_bad hc, show (!chk a b c d e f g l == 0) = true by simp [hc], br_t]
    cases decide (i < 0) <;> cases decide (i ≥ b) <;> simp only [br_t, br_f]
theorem x112 : sxFn E112 A112 C112 [cfgS a b c d e f g l, I i] [] K = K (I (atV a b c d e f g l 4 i 0)) (H49 a b c d e f g l) := by
  rw [← sxFnI_eq, u112]
  by_cases hc : chk a b c d e f g l = 0
  · rw [at4 hc]
    obtain ⟨⟨a1, a2⟩, ⟨b1, b2⟩, ⟨c1, c2⟩, ⟨d1, d2⟩, ⟨e1, e2⟩, _⟩ := chk_zero hc
    by_cases h1 : i < 0
    · rw [decide_eq_true h1, br_t, if_neg (by omega)]
    · rw [decide_eq_false h1, br_f]
      by_cases h2 : i ≥ e
      · rw [decide_eq_true h2, br_t, if_neg (by omega)]
      · have hv : IntKind.wrap .i64 (IntKind.wrap .i64 (IntKind.wrap .i64 (IntKind.wrap .i64 (3 + a) + b) + 1) + IntKind.wrap .i64 (i * 2)) = 3 + a + b + 2 * i + 1 := by rw [w64 (x := 3 + a) (by omega) (by omega), w64 (x := 3 + a + b) (by omega) (by omega), w64 (x := 3 + a + b + 1) (by omega) (by omega), w64 (x := i * 2) (by omega) (by omega), w64 (by omega) (by omega)]; omega
        rw [decide_eq_false h2, br_f, show (!chk a b c d e f g l == 0) = false by simp [hc], br_f, hv, if_pos (by omega)]
  · rw [atV_bad hc, show (!chk a b c d e f g l == 0) = true by simp [hc], br_t]
    cases decide (i < 0) <;> cases decide (i ≥ e) <;> simp only [br_t, br_f]
theorem x117 : sxFn E117 A117 C117 [cfgS a b c d e f g l, I i] [] K = K (I (atV a b c d e f g l 5 i 0)) (H49 a b c d e f g l) := by
  rw [← sxFnI_eq, u117]
  by_cases hc : chk a b c d e f g l = 0
  · rw [at5 hc, show (!chk a b c d e f g l == 0) = false by simp [hc], br_f, br_f]
    obtain ⟨⟨a1, a2⟩, ⟨b1, b2⟩, ⟨c1, c2⟩, ⟨d1, d2⟩, ⟨e1, e2⟩, _⟩ := chk_zero hc
    have hbc : 0 ≤ b * c ∧ b * c ≤ 128 := by
      obtain ⟨Bn, rfl⟩ := Int.eq_ofNat_of_zero_le (show 0 ≤ b by omega)
      obtain ⟨Cn, rfl⟩ := Int.eq_ofNat_of_zero_le (show 0 ≤ c by omega)
      have hBC : Bn * Cn ≤ 8 * 16 := Nat.mul_le_mul (by omega) (by omega)
      rw [← Int.natCast_mul]; omega
    rw [w64 (x := b * c) (by omega) (by omega)]
    by_cases h1 : i < 0
    · rw [decide_eq_true h1, br_t, if_neg (by omega)]
    · rw [decide_eq_false h1, br_f]
      by_cases h2 : i ≥ b * c
      · rw [decide_eq_true h2, br_t, if_neg (by omega)]
      · have hi : 0 ≤ (1 + d) * i ∧ (1 + d) * i ≤ 5 * 128 := by
          obtain ⟨D, rfl⟩ := Int.eq_ofNat_of_zero_le (show 0 ≤ d by omega)
          obtain ⟨n, rfl⟩ := Int.eq_ofNat_of_zero_le (show 0 ≤ i by omega)
          have hP : (1 + D) * n ≤ 5 * 128 := Nat.mul_le_mul (by omega) (by omega)
          have e0 : (1 + (D : Int)) * (n : Int) = (((1 + D) * n : Nat) : Int) := by push_cast; rfl
          rw [e0]; omega
        rw [decide_eq_false h2, br_f, w64 (x := 3 + a) (by omega) (by omega), w64 (x := 3 + a + b) (by omega) (by omega), w64 (x := 2 * e) (by omega) (by omega), w64 (x := 3 + a + b + 2 * e) (by omega) (by omega),
          w64 (x := 1 + d) (by omega) (by omega), Int.mul_comm i (1 + d), w64 (x := (1 + d) * i) (by omega) (by omega), w64 (by omega) (by omega), if_pos (by omega)]
  · rw [atV_bad hc, show (!chk a b c d e f g l == 0) = true by simp [hc], br_t]
    cases decide (i < 0) <;> cases decide (i ≥ 0) <;> simp only [br_t, br_f]
end

/-- An address of one kind. -/
def FAd (k : Int) : List (List Int) → Option (Bool × SV × SH)
  | [[a, b, c, d, e, f, g, l], [i]] => some (true, I (atV a b c d e f g l k i 0), [])
  | _ => none
theorem one_of {α : Type} {l : List α} (h : l.length = 1) : ∃ a, l = [a] := by
  match l, h with
  | [a], _ => exact ⟨a, rfl⟩
def S95 {Ω : Type} : Spec Ω := conSpec [.g cfgK, .i .i64] (FAd 2)
theorem g95 : Good1 Try.prog 56 S95 := conGood Try.func56 (by kernel_rfl) c95 e95 mix (A := A95) fun L r hr hl hF => by
  obtain ⟨p, q, rfl, hp, s, q2, rfl, hs, hq⟩ := hl
  simp only [lenAs] at hq
  subst hq
  obtain ⟨a, b, c, d, e, f, g, l, rfl⟩ := eight hp
  obtain ⟨i, rfl⟩ := one_of hs
  simp only [FAd, Option.some.injEq, Prod.mk.injEq, true_and] at hF
  obtain ⟨rfl, rfl⟩ := hF
  exact ⟨trivial, trivial, _, trim_none rfl _, x95 _ a b c d e f g l i⟩
def S112c {Ω : Type} : Spec Ω := conSpec [.g cfgK, .i .i64] (FAd 4)
theorem g112c : Good1 Try.prog 98 S112c := conGood Try.func98 (by kernel_rfl) c112 e112 mix (A := A112) fun L r hr hl hF => by
  obtain ⟨p, q, rfl, hp, s, q2, rfl, hs, hq⟩ := hl
  simp only [lenAs] at hq
  subst hq
  obtain ⟨a, b, c, d, e, f, g, l, rfl⟩ := eight hp
  obtain ⟨i, rfl⟩ := one_of hs
  simp only [FAd, Option.some.injEq, Prod.mk.injEq, true_and] at hF
  obtain ⟨rfl, rfl⟩ := hF
  exact ⟨trivial, trivial, _, trim_none rfl _, x112 _ a b c d e f g l i⟩
def S117 {Ω : Type} : Spec Ω := conSpec [.g cfgK, .i .i64] (FAd 5)
theorem g117 : Good1 Try.prog 100 S117 := conGood Try.func100 (by kernel_rfl) c117 e117 mix (A := A117) fun L r hr hl hF => by
  obtain ⟨p, q, rfl, hp, s, q2, rfl, hs, hq⟩ := hl
  simp only [lenAs] at hq
  subst hq
  obtain ⟨a, b, c, d, e, f, g, l, rfl⟩ := eight hp
  obtain ⟨i, rfl⟩ := one_of hs
  simp only [FAd, Option.some.injEq, Prod.mk.injEq, true_and] at hF
  obtain ⟨rfl, rfl⟩ := hF
  exact ⟨trivial, trivial, _, trim_none rfl _, x117 _ a b c d e f g l i⟩
end Go.Sx.Pr

/- Contracts: the document's Low and power. -/
namespace Go.Sx.Pr
open Go Go.Sx Go.Proofs
set_option maxRecDepth 100000

abbrev S80s (w bits n i : Int) : SS := ⟨[(0, U w), (1, I bits), (5, U n), (6, I i)], []⟩
abbrev S83s (bits n i : Int) : SS := ⟨[(0, I bits), (3, U n), (4, I i)], []⟩
theorem l80 {Ω : Type} (it : Itr Ω) (K : SV → SH → Option Ω) (w bits : Int) :
    sxFnI it E80 A80 C80 [U w, I bits] [] K =
    it [0, 1, 5, 6] 0 (sxI it E80 A80 L80_2 0) (SS.mk [(0, U w), (1, I bits), (5, U 1), (6, I 0)] []) (Z80_2 it K) := by kernel_rfl
theorem l80_1 {Ω : Type} (it : Itr Ω) (IT : SS → Option Ω) (K : SV → SH → Option Ω) (w bits n i : Int) :
    sxI it E80 A80 L80_2 0 (S80s w bits n i) (kitV [0, 1, 5, 6] 0 IT (Z80_2 it K)) =
    br (decide (i < bits)) (IT (SS.mk [(0, U w), (1, I bits), (5, U (IntKind.wrap .u64 (n * 2))), (6, I (IntKind.wrap .i64 (i + 1)))] [])) (br (decide (bits > 63)) (K (U w) []) (br (n == 0) none (K (U (Int.tmod w n)) []))) := by kernel_rfl
theorem l83 {Ω : Type} (it : Itr Ω) (K : SV → SH → Option Ω) (bits : Int) :
    sxFnI it E83 A83 C83 [I bits] [] K =
    it [0, 3, 4] 0 (sxI it E83 A83 L83_2 0) (SS.mk [(0, I bits), (3, U 1), (4, I 0)] []) (Z83_2 it K) := by kernel_rfl
theorem l83_1 {Ω : Type} (it : Itr Ω) (IT : SS → Option Ω) (K : SV → SH → Option Ω) (bits n i : Int) :
    sxI it E83 A83 L83_2 0 (S83s bits n i) (kitV [0, 3, 4] 0 IT (Z83_2 it K)) =
    br (decide (i < bits)) (IT (SS.mk [(0, I bits), (3, U (IntKind.wrap .u64 (n * 2))), (4, I (IntKind.wrap .i64 (i + 1)))] [])) (K (U n) []) := by kernel_rfl

theorem pow_le {i : Nat} (h : i ≤ 63) : (2 : Int) ^ i ≤ 9223372036854775808 := by
  have := Nat.pow_le_pow_right (show 0 < 2 by omega) h
  have e : ((2 ^ i : Nat) : Int) = (2 : Int) ^ i := by push_cast; rfl
  rw [← e]
  omega

theorem pow_pos' (i : Nat) : (1 : Int) ≤ 2 ^ i := by
  have := Nat.pow_pos (show 0 < 2 by omega) (n := i)
  have e : ((2 ^ i : Nat) : Int) = (2 : Int) ^ i := by push_cast; rfl
  rw [← e]
  omega

theorem dbl {i : Nat} (h : i + 1 ≤ 63) : IntKind.wrap .u64 ((2 : Int) ^ i * 2) = 2 ^ (i + 1) := by
  rw [← Int.pow_succ]
  have := pow_le h
  have := pow_pos' (i + 1)
  rw [IntKind.wrap_u64]
  omega

theorem v80 {w : Int} {n : Nat} (hw : 0 ≤ w) (hn : n ≤ 63) : sxFn E80 A80 C80 [U w, I n] [] KS = some (U (w % 2 ^ n), []) := by
  rw [← sxFnI_eq, l80, itB_def]
  obtain ⟨N, h⟩ := loop_n (f := sxI itB E80 A80 L80_2 0) (lv := [0, 1, 5, 6]) (n0 := 0) (k := Z80_2 itB KS) (fun i => S80s w n (2 ^ i) (i : Int)) big n (by unfold big; omega) (fun i hi I => by
    rw [l80_1, decide_eq_true (by omega), br_t, dbl (by omega), w64 (by omega) (by omega)]; rfl)
  refine Eq.trans h ?_
  rw [l80_1, decide_eq_false (by omega), br_f]
  have h1 : decide ((n : Int) > 63) = false := by simp; omega
  have h2 : ((2 : Int) ^ n == 0) = false := by
    have := pow_pos' n
    simp; omega
  rw [h1, h2, br_f, br_f, Int.tmod_eq_emod_of_nonneg hw]

theorem v83 {n : Nat} (hn : n ≤ 63) : sxFn E83 A83 C83 [I n] [] KS = some (U (2 ^ n), []) := by
  rw [← sxFnI_eq, l83, itB_def]
  obtain ⟨N, h⟩ := loop_n (f := sxI itB E83 A83 L83_2 0) (lv := [0, 3, 4]) (n0 := 0) (k := Z83_2 itB KS) (fun i => S83s n (2 ^ i) (i : Int)) big n (by unfold big; omega) (fun i hi I => by
    rw [l83_1, decide_eq_true (by omega), br_t, dbl (by omega), w64 (by omega) (by omega)]; rfl)
  refine Eq.trans h ?_
  rw [l83_1, decide_eq_false (by omega), br_f]

def FLow : List (List Int) → Option (Bool × SV × SH)
  | [[w], [bits]] => some (decide (0 ≤ w) && (decide (0 ≤ bits) && decide (bits ≤ 63)), U (w % 2 ^ bits.toNat), [])
  | _ => none
def FPow : List (List Int) → Option (Bool × SV × SH)
  | [[bits]] => some (decide (0 ≤ bits) && decide (bits ≤ 63), U (2 ^ bits.toNat), [])
  | _ => none
theorem one_of' {α : Type} {l : List α} (h : l.length = 1) : ∃ a, l = [a] := by
  match l, h with
  | [a], _ => exact ⟨a, rfl⟩
def S80c {Ω : Type} : Spec Ω := conSpec [.i .u64, .i .i64] FLow
theorem g80c : Good1 Try.prog 66 S80c := conGood Try.func66 (by kernel_rfl) c80 e80 mix (A := A80) fun L r hr hl hF => by
  obtain ⟨p, q, rfl, hp, s, q2, rfl, hs, hq⟩ := hl
  simp only [lenAs] at hq
  subst hq
  obtain ⟨w, rfl⟩ := one_of' hp
  obtain ⟨bits, rfl⟩ := one_of' hs
  simp only [FLow, Option.some.injEq, Prod.mk.injEq, Bool.and_eq_true, decide_eq_true_eq] at hF
  obtain ⟨⟨h0, h1, h2⟩, rfl, rfl⟩ := hF
  obtain ⟨n, rfl⟩ := Int.eq_ofNat_of_zero_le h1
  exact ⟨trivial, trivial, _, trim_none rfl _, v80 h0 (by omega)⟩
def S83c {Ω : Type} : Spec Ω := conSpec [.i .i64] FPow
theorem g83c : Good1 Try.prog 67 S83c := conGood Try.func67 (by kernel_rfl) c83 e83 mix (A := A83) fun L r hr hl hF => by
  obtain ⟨p, q, rfl, hp, hq⟩ := hl
  simp only [lenAs] at hq
  subst hq
  obtain ⟨bits, rfl⟩ := one_of' hp
  simp only [FPow, Option.some.injEq, Prod.mk.injEq, Bool.and_eq_true, decide_eq_true_eq] at hF
  obtain ⟨⟨h1, h2⟩, rfl, rfl⟩ := hF
  obtain ⟨n, rfl⟩ := Int.eq_ofNat_of_zero_le h1
  exact ⟨trivial, trivial, _, trim_none rfl _, v83 (by omega)⟩
end Go.Sx.Pr

/- Arguments whose cells are integers, booleans and slices of integers: structs and arrays of such. -/
namespace Go.Sx

/-- What a cell holds. -/
inductive CT where
  | i (k : IntKind)
  | b
  | s (k : IntKind)

def tyC : DV → CT → Prop
  | x, .i k => ∃ n, x = .v (.int k n) ∧ (Lit.int k n).wf = true
  | x, .b => ∃ n, x = .v (.bool n)
  | x, .s k => ∃ xs : List Int, x = .ints k xs ∧ ∀ n ∈ xs, (Lit.int k n).wf = true

def Typ : List DV → List CT → Prop
  | [], [] => True
  | x :: r, c :: cs => tyC x c ∧ Typ r cs
  | _, _ => False

theorem Typ.append : ∀ {l l' : List DV} {a b : List CT}, Typ l a → Typ l' b → Typ (l ++ l') (a ++ b)
  | [], _, [], _, _, h => h
  | _ :: _, _, _ :: _, _, h, h' => ⟨h.1, Typ.append h.2 h'⟩
  | [], _, _ :: _, _, h, _ => h.elim
  | _ :: _, _, [], _, h, _ => h.elim

theorem Typ.split {l : List DV} {n : Nat} {a b : List CT} (h : Typ (l.take n) a) (h' : Typ (l.drop n) b) : Typ l (a ++ b) := by
  have := Typ.append h h'
  rwa [List.take_append_drop] at this

def getB : DV → Bool
  | .v (.bool x) => x
  | _ => false
def getS : DV → List Int
  | .ints _ l => l
  | _ => []

/-- Cells by the numbers, truths and lists that they hold. -/
def cellsD : List CT → Nat → (Nat → Int) → (Nat → Bool) → (Nat → List Int) → List DV
  | [], _, _, _, _ => []
  | .i k :: r, j, iv, bv, sv => .v (.int k (iv j)) :: cellsD r (j + 1) iv bv sv
  | .b :: r, j, iv, bv, sv => .v (.bool (bv j)) :: cellsD r (j + 1) iv bv sv
  | .s k :: r, j, iv, bv, sv => .ints k (sv j) :: cellsD r (j + 1) iv bv sv

end Go.Sx
