/- Contract: the layout's list. -/
import Derived.Test.YtppkbofmgjkboaaP3
import Derived.Test.YtppkbofmgjkboaaRows
import Derived.KernelRfl
import Derived.Test.YtppkbofmgjkboaaP3
import Derived.Test.YtppkbofmgjkboaaP3
set_option linter.all false
set_option linter.unusedVariables false
set_option linter.unusedSimpArgs false
set_option linter.unnecessarySimpa false
namespace Go.Sx.Pr
open Go Go.Sx Go.Proofs
set_option maxRecDepth 100000

abbrev dI (x : Int) : DV := .v (.int .i64 x)
def ap (l : List DV) : Nat → Nat → DV := fun i j => lkD l (i * 3 + j)
abbrev AL (m : Nat) (q : Nat → Nat → DV) (a b c d e f g l : Int) : SH := [CFG a b c d e f g l, .dead, .dead, .row 107 3 m q]
abbrev T20 (t : Nat) (i : Int) (m : Nat) (q : Nat → Nat → DV) (a b c d e f g l : Int) : SS := ⟨[(1, .ptr 0 0), (3, .own 3), (t, I i)], AL m q a b c d e f g l⟩
def q20 : Nat → Nat → DV := ap [dI 0, dI 0, dI 0, dI 0, dI 1, dI 0, dI 0, dI 2, dI 0]

section
variable {Ω : Type} (it : Itr Ω) (IT : SS → Option Ω) (K : SV → SH → Option Ω) (KK : SE → SS → Option Ω) (a b c d e f g l : Int) (i j : Int) (m : Nat) (q : Nat → Nat → DV)
theorem r20 : sxFnI it E20 A20 C20 [cfgS a b c d e f g l] [] K = it [1, 3, 4] 2 (sxI it E20 A20 L20_13 0) ⟨[(1, .ptr 0 0), (3, .cs 1 0 3 3 3), (4, I 0)], [CFG a b c d e f g l, .cells 107 [I 0, I 0, I 0, I 0, I 1, I 0, I 0, I 2, I 0]]⟩ (Z20_13 it K) := by kernel_rfl
theorem r20_0 : sxI it E20 A20 L20_13 0 ⟨[(1, .ptr 0 0), (3, .cs 1 0 3 3 3), (4, I 0)], [CFG a b c d e f g l, .cells 107 [I 0, I 0, I 0, I 0, I 1, I 0, I 0, I 2, I 0]]⟩ (kitV [1, 3, 4] 2 IT (Z20_13 it K)) =
    br (decide (0 < a)) (IT (T20 4 1 4 (catF 3 q20 (ap [dI 1, dI 0, dI 0])) a b c d e f g l)) (it [1, 3, 5] 2 (sxI it E20 A20 L20_11 2) ⟨[(1, .ptr 0 0), (3, .cs 1 0 3 3 3), (5, I 0)], [CFG a b c d e f g l, .cells 107 [I 0, I 0, I 0, I 0, I 1, I 0, I 0, I 2, I 0]]⟩ (Z20_11 it K)) := by kernel_rfl
theorem r20_1 : sxI it E20 A20 L20_13 0 (T20 4 i m q a b c d e f g l) (kitV [1, 3, 4] 2 IT (Z20_13 it K)) =
    br (decide (i < a)) (br (fits (m + 1) 24) (IT (T20 4 (IntKind.wrap .i64 (i + 1)) (m + 1) (catF m q (ap [dI 1, dI i, dI 0])) a b c d e f g l)) none) (it [1, 3, 5] 4 (sxI it E20 A20 L20_11 2) (T20 5 0 m q a b c d e f g l) (Z20_11 it K)) := by kernel_rfl
theorem r20_2 : sxI it E20 A20 L20_11 2 (T20 5 i m q a b c d e f g l) (kitV [1, 3, 5] 4 IT (Z20_11 it K)) =
    br (decide (i < b)) (br (fits (m + 1) 24) (IT (T20 5 (IntKind.wrap .i64 (i + 1)) (m + 1) (catF m q (ap [dI 2, dI i, dI 0])) a b c d e f g l)) none) (it [1, 3, 6] 4 (sxI it E20 A20 L20_9 4) (T20 6 0 m q a b c d e f g l) (Z20_9 it K)) := by kernel_rfl
theorem r20_3 : sxI it E20 A20 L20_9 4 (T20 6 i m q a b c d e f g l) (kitV [1, 3, 6] 4 IT (Z20_9 it K)) =
    br (decide (i < e)) (br (fits (m + 2) 24) (IT (T20 6 (IntKind.wrap .i64 (i + 1)) (m + 2) (catF m q (ap [dI 3, dI i, dI 0, dI 4, dI i, dI 0])) a b c d e f g l)) none) (it [1, 3, 7] 4 (sxI it E20 A20 L20_7 6) (T20 7 0 m q a b c d e f g l) (Z20_7 it K)) := by kernel_rfl
abbrev T20i (i j : Int) (m : Nat) (q : Nat → Nat → DV) (a b c d e f g l : Int) : SS := ⟨[(1, .ptr 0 0), (3, .own 3), (7, I i), (8, I j)], [CFG a b c d e f g l, .dead, .dead, .row 107 3 m q, .cells 107 [I 5, I i, I 0]]⟩
theorem r20_4 : sxI it E20 A20 L20_7 6 (T20 7 i m q a b c d e f g l) KK =
    br (decide (i < IntKind.wrap .i64 (b * c))) (br (fits (m + 1) 24) (it [1, 3, 7, 8] 5 (sxI it E20 A20 L20_3 8) (T20i i 0 (m + 1) (catF m q (ap [dI 5, dI i, dI 0])) a b c d e f g l) (Z20_3 it KK)) none) (KK (.exit 6) (T20 7 i m q a b c d e f g l)) := by kernel_rfl
theorem r20_5 : sxI it E20 A20 L20_3 8 (T20i i j m q a b c d e f g l) (kitV [1, 3, 7, 8] 5 IT (Z20_3 it KK)) =
    br (decide (j < d)) (br (fits (m + 1) 24) (IT (T20i i (IntKind.wrap .i64 (j + 1)) (m + 1) (catF m q (ap [dI 6, dI i, dI j])) a b c d e f g l)) none)
      (KK .norm ⟨[(1, .ptr 0 0), (3, .own 3), (7, I (IntKind.wrap .i64 (i + 1))), (8, I j)], [CFG a b c d e f g l, .dead, .dead, .row 107 3 m q, .cells 107 [I 5, I i, I 0]]⟩) := by kernel_rfl
theorem r20_6 (i' : Int) : gc [1, 3, 7] 4 ⟨[(1, .ptr 0 0), (3, .own 3), (7, I i), (8, I j)], [CFG a b c d e f g l, .dead, .dead, .row 107 3 m q, .cells 107 [I 5, I i', I 0]]⟩ = T20 7 i m q a b c d e f g l := by kernel_rfl
theorem r20_7 : Z20_7 it K (.exit 6) (T20 7 i m q a b c d e f g l) = K (.own 3) (AL m q a b c d e f g l) := by kernel_rfl
end

def d1 (i : Nat) : List DV := [dI 1, dI i, dI 0]
def d2 (i : Nat) : List DV := [dI 2, dI i, dI 0]
def d3 (i : Nat) : List DV := [dI 3, dI i, dI 0, dI 4, dI i, dI 0]
def d6 (t : Int) (j : Nat) : List DV := [dI 6, dI t, dI j]
/-- The blocks: slot 5 and its words, i of them. -/
def blkA (D : Nat) (q : Nat → Nat → DV) (m : Nat) : Nat → Nat → Nat → DV
  | 0 => q
  | i + 1 => acc 3 (catF (m + (1 + D) * i) (blkA D q m i) (ap [dI 5, dI i, dI 0])) (m + (1 + D) * i + 1) 1 (d6 i) D

section
variable {Ω : Type} (K : SV → SH → Option Ω) (KK : SE → SS → Option Ω) (a b c d e f g l : Int) (q : Nat → Nat → DV)

theorem st1 (A : Nat) (hA : A ≤ 1000) (h1 : 1 ≤ A) : sxFnI itB E20 A20 C20 [cfgS A b c d e f g l] [] K =
    itB [1, 3, 5] 4 (sxI itB E20 A20 L20_11 2) (T20 5 0 (3 + 1 * A) (acc 3 q20 3 1 d1 A) A b c d e f g l) (Z20_11 itB K) := by
  have h0 : ∀ i, i < A - 1 → ∀ I : SS → Option Ω, sxI itB E20 A20 L20_13 0 (T20 4 ((i + 1 : Nat) : Int) (3 + 1 * (i + 1)) (acc 3 q20 3 1 d1 (i + 1)) A b c d e f g l) (kitV [1, 3, 4] 2 I (Z20_13 itB K)) =
      I (T20 4 ((i + 1 + 1 : Nat) : Int) (3 + 1 * (i + 1 + 1)) (acc 3 q20 3 1 d1 (i + 1 + 1)) A b c d e f g l) := fun i hi I => by
    rw [r20_1, decide_eq_true (by omega), fits_of (by omega), w64 (by omega) (by omega)]; rfl
  obtain ⟨N, hN, h2⟩ := itB_first (f := sxI itB E20 A20 L20_13 0) (lv := [1, 3, 4]) (n0 := 2) (k := Z20_13 itB K) (s := ⟨[(1, .ptr 0 0), (3, .cs 1 0 3 3 3), (4, I 0)], [CFG A b c d e f g l, .cells 107 [I 0, I 0, I 0, I 0, I 1, I 0, I 0, I 2, I 0]]⟩)
  obtain ⟨n, hn⟩ := loop_n (f := sxI itB E20 A20 L20_13 0) (lv := [1, 3, 4]) (n0 := 2) (k := Z20_13 itB K) (fun i => T20 4 ((i + 1 : Nat) : Int) (3 + 1 * (i + 1)) (acc 3 q20 3 1 d1 (i + 1)) A b c d e f g l) N (A - 1) (by omega) h0
  rw [r20, h2, r20_0, decide_eq_true (by omega)]
  simp only [br, cond_true]
  refine Eq.trans hn ?_
  rw [show A - 1 + 1 = A by omega, r20_1, decide_eq_false (by omega)]
  simp only [br, cond_false]

theorem st2 (Bn m : Nat) (hB : Bn ≤ 1000) (hm : m ≤ 1000000) : itB [1, 3, 5] 4 (sxI itB E20 A20 L20_11 2) (T20 5 0 m q a Bn c d e f g l) (Z20_11 itB K) =
    itB [1, 3, 6] 4 (sxI itB E20 A20 L20_9 4) (T20 6 0 (m + 1 * Bn) (acc 3 q m 1 d2 Bn) a Bn c d e f g l) (Z20_9 itB K) := by
  obtain ⟨n, hn⟩ := loop_n (f := sxI itB E20 A20 L20_11 2) (lv := [1, 3, 5]) (n0 := 4) (k := Z20_11 itB K) (fun i => T20 5 (i : Int) (m + 1 * i) (acc 3 q m 1 d2 i) a Bn c d e f g l) big Bn (by unfold big; omega) (fun i hi I => by
    rw [r20_2, decide_eq_true (by omega), fits_of (by omega), w64 (by omega) (by omega)]; rfl)
  rw [itB_def]
  refine Eq.trans hn ?_
  rw [r20_2, decide_eq_false (by omega)]
  simp only [br, cond_false]

theorem st3 (En m : Nat) (hB : En ≤ 1000) (hm : m ≤ 1000000) : itB [1, 3, 6] 4 (sxI itB E20 A20 L20_9 4) (T20 6 0 m q a b c d En f g l) (Z20_9 itB K) =
    itB [1, 3, 7] 4 (sxI itB E20 A20 L20_7 6) (T20 7 0 (m + 2 * En) (acc 3 q m 2 d3 En) a b c d En f g l) (Z20_7 itB K) := by
  obtain ⟨n, hn⟩ := loop_n (f := sxI itB E20 A20 L20_9 4) (lv := [1, 3, 6]) (n0 := 4) (k := Z20_9 itB K) (fun i => T20 6 (i : Int) (m + 2 * i) (acc 3 q m 2 d3 i) a b c d En f g l) big En (by unfold big; omega) (fun i hi I => by
    rw [r20_3, decide_eq_true (by omega), fits_of (by omega), w64 (by omega) (by omega)]; rfl)
  rw [itB_def]
  refine Eq.trans hn ?_
  rw [r20_3, decide_eq_false (by omega)]
  simp only [br, cond_false]

theorem st5 (t Dn m : Nat) (ht : t ≤ 1000) (hB : Dn ≤ 1000) (hm : m ≤ 1000000) : itB [1, 3, 7, 8] 5 (sxI itB E20 A20 L20_3 8) (T20i t 0 m q a b c Dn e f g l) (Z20_3 itB KK) =
    KK .norm ⟨[(1, .ptr 0 0), (3, .own 3), (7, I ((t + 1 : Nat) : Int)), (8, I Dn)], [CFG a b c Dn e f g l, .dead, .dead, .row 107 3 (m + 1 * Dn) (acc 3 q m 1 (d6 t) Dn), .cells 107 [I 5, I t, I 0]]⟩ := by
  obtain ⟨n, hn⟩ := loop_n (f := sxI itB E20 A20 L20_3 8) (lv := [1, 3, 7, 8]) (n0 := 5) (k := Z20_3 itB KK) (fun i => T20i t (i : Int) (m + 1 * i) (acc 3 q m 1 (d6 t) i) a b c Dn e f g l) big Dn (by unfold big; omega) (fun i hi I => by
    rw [r20_5, decide_eq_true (by omega), fits_of (by omega), w64 (by omega) (by omega)]; rfl)
  rw [itB_def]
  refine Eq.trans hn ?_
  rw [r20_5, decide_eq_false (by omega)]
  simp only [br, cond_false]
  rw [w64 (by omega) (by omega)]
  rfl

theorem st4 (Bn Cn Dn m : Nat) (hB : Bn * Cn ≤ 1000) (hD : Dn ≤ 100) (hm : m ≤ 10000) : itB [1, 3, 7] 4 (sxI itB E20 A20 L20_7 6) (T20 7 0 m q a Bn Cn Dn e f g l) (Z20_7 itB K) =
    K (.own 3) (AL (m + (1 + Dn) * (Bn * Cn)) (blkA Dn q m (Bn * Cn)) a Bn Cn Dn e f g l) := by
  have hw : IntKind.wrap .i64 ((Bn : Int) * Cn) = ((Bn * Cn : Nat) : Int) := by
    rw [← Int.natCast_mul, w64] <;> omega
  obtain ⟨n, hn⟩ := loop_n (f := sxI itB E20 A20 L20_7 6) (lv := [1, 3, 7]) (n0 := 4) (k := Z20_7 itB K) (fun i => T20 7 (i : Int) (m + (1 + Dn) * i) (blkA Dn q m i) a Bn Cn Dn e f g l) big (Bn * Cn) (by unfold big; omega) (fun i hi I => by
    have hmul : (1 + Dn) * i ≤ 101 * 1000 := Nat.mul_le_mul (by omega) (by omega)
    rw [r20_4, hw, decide_eq_true (by omega), fits_of (by omega)]
    simp only [br, cond_true]
    rw [st5 _ _ _ _ _ _ _ _ _ _ _ _ (by omega) (by omega) (by omega)]
    simp only [kitV]
    rw [r20_6]
    have e : m + (1 + Dn) * i + 1 + 1 * Dn = m + (1 + Dn) * (i + 1) := by rw [Nat.mul_succ]; omega
    rw [e]
    rfl)
  rw [itB_def]
  refine Eq.trans hn ?_
  rw [r20_4, hw, decide_eq_false (by omega)]
  simp only [br, cond_false, kitV]
  rw [r20_7]
end

/-- How many words there are. -/
def sizeN (A Bn Cn D E : Nat) : Nat := 3 + 1 * A + 1 * Bn + 2 * E + (1 + D) * (Bn * Cn)
def qAll (A Bn Cn D E : Nat) : Nat → Nat → DV := blkA D (acc 3 (acc 3 (acc 3 q20 3 1 d1 A) (3 + 1 * A) 1 d2 Bn) (3 + 1 * A + 1 * Bn) 2 d3 E) (3 + 1 * A + 1 * Bn + 2 * E) (Bn * Cn)

theorem v20 {Ω : Type} (K : SV → SH → Option Ω) {a b c d e f g l : Int} (h : chk a b c d e f g l = 0) : sxFn E20 A20 C20 [cfgS a b c d e f g l] [] K =
    K (.own 3) (AL (sizeN a.toNat b.toNat c.toNat d.toNat e.toNat) (qAll a.toNat b.toNat c.toNat d.toNat e.toNat) a b c d e f g l) := by
  obtain ⟨⟨a1, a2⟩, ⟨b1, b2⟩, ⟨c1, c2⟩, ⟨g1, g2⟩, ⟨e1, e2⟩, _⟩ := chk_zero h
  obtain ⟨A, rfl⟩ := Int.eq_ofNat_of_zero_le (show 0 ≤ a by omega)
  obtain ⟨Bn, rfl⟩ := Int.eq_ofNat_of_zero_le (show 0 ≤ b by omega)
  obtain ⟨Cn, rfl⟩ := Int.eq_ofNat_of_zero_le (show 0 ≤ c by omega)
  obtain ⟨Dn, rfl⟩ := Int.eq_ofNat_of_zero_le (show 0 ≤ d by omega)
  obtain ⟨En, rfl⟩ := Int.eq_ofNat_of_zero_le (show 0 ≤ e by omega)
  have hBC : Bn * Cn ≤ 8 * 16 := Nat.mul_le_mul (by omega) (by omega)
  rw [← sxFnI_eq, st1 _ _ _ _ _ _ _ _ A (by omega) (by omega), st2 _ _ _ _ _ _ _ _ _ _ _ (by omega) (by omega), st3 _ _ _ _ _ _ _ _ _ _ _ (by omega) (by omega), st4 _ _ _ _ _ _ _ _ _ _ _ (by omega) (by omega) (by omega)]
  rfl

end Go.Sx.Pr

namespace Go.Sx.Pr
open Go Go.Sx Go.Proofs
set_option maxRecDepth 100000
/-- (coatcheck/plan.Plan).slabs -/
def C125 : CF := ⟨1, [(2, none)],
 .seq (.reg false [⟨some 1, .box 87 8 (.t 0), none, 0⟩,
   ⟨some 2, .mv (.c (.d (.v (.int .i64 0)))), none, 0⟩])
 (.seq (.reg false [⟨some 3, .fa 0 (.t 1), none, 0⟩,
   ⟨some 4, .fa 0 (.t 3), none, 0⟩,
   ⟨some 5, .ld 1 false (.t 4), none, 0⟩,
   ⟨some 6, .bin .add (.c (.d (.v (.int .i64 3)))) (.t 5), none, 0⟩,
   ⟨some 2, .mv (.t 6), none, 0⟩])
 (.ret))⟩
theorem c125 : coF Try.prog Try.f97 = some C125 := by kernel_rfl
def A125 : Ann := { keep := [0, 1, 2], live := [] }
def E125 {Ω : Type} : Env Ω := enil
theorem e125 : GoodE Try.prog E125 := GoodE.nil
def S125 {Ω : Type} : Spec Ω := inl E125 A125 C125 false
theorem g125 : Good1 Try.prog 97 S125 := Good1.inl e125 mix Try.func97 (by kernel_rfl) c125 A125 false
/-- (coatcheck/plan.Plan).entries -/
def C127 : CF := ⟨1, [(2, none)],
 .seq (.reg false [⟨some 1, .box 87 8 (.t 0), none, 0⟩,
   ⟨some 2, .mv (.c (.d (.v (.int .i64 0)))), none, 0⟩])
 (.seq (.reg true [⟨some 3, .ld 8 true (.t 1), none, 0⟩,
   ⟨some 4, .call (.c (.fn (.func 97) [] [])) [.t 3], none, 1⟩,
   ⟨some 5, .fa 0 (.t 1), none, 0⟩,
   ⟨some 6, .fa 1 (.t 5), none, 4⟩,
   ⟨some 7, .ld 1 false (.t 6), none, 12⟩,
   ⟨some 8, .bin .add (.t 4) (.t 7), none, 31⟩,
   ⟨some 2, .mv (.t 8), none, 63⟩])
 (.ret))⟩
theorem c127 : coF Try.prog Try.f82 = some C127 := by kernel_rfl
def A127 : Ann := { keep := [0, 1, 2], live := [] }
def E127 {Ω : Type} : Env Ω := econs 97 S125 (enil)
theorem e127 : GoodE Try.prog E127 := GoodE.cons g125 (GoodE.nil)
def S127 {Ω : Type} : Spec Ω := inl E127 A127 C127 false
theorem g127 : Good1 Try.prog 82 S127 := Good1.inl e127 mix Try.func82 (by kernel_rfl) c127 A127 false
/-- (coatcheck/plan.Plan).blocks -/
def C107 : CF := ⟨1, [(2, none)],
 .seq (.reg false [⟨some 1, .box 87 8 (.t 0), none, 0⟩,
   ⟨some 2, .mv (.c (.d (.v (.int .i64 0)))), none, 0⟩])
 (.seq (.reg true [⟨some 3, .ld 8 true (.t 1), none, 0⟩,
   ⟨some 4, .call (.c (.fn (.func 82) [] [])) [.t 3], none, 1⟩,
   ⟨some 5, .fa 0 (.t 1), none, 0⟩,
   ⟨some 6, .fa 4 (.t 5), none, 4⟩,
   ⟨some 7, .ld 1 false (.t 6), none, 12⟩,
   ⟨some 8, .bin .mul (.c (.d (.v (.int .i64 2)))) (.t 7), none, 28⟩,
   ⟨some 9, .bin .add (.t 4) (.t 8), none, 63⟩,
   ⟨some 2, .mv (.t 9), none, 127⟩])
 (.ret))⟩
theorem c107 : coF Try.prog Try.f94 = some C107 := by kernel_rfl
def A107 : Ann := { keep := [0, 1, 2], live := [] }
def E107 {Ω : Type} : Env Ω := econs 82 S127 (enil)
theorem e107 : GoodE Try.prog E107 := GoodE.cons g127 (GoodE.nil)
def S107 {Ω : Type} : Spec Ω := inl E107 A107 C107 false
theorem g107 : Good1 Try.prog 94 S107 := Good1.inl e107 mix Try.func94 (by kernel_rfl) c107 A107 false
/-- (coatcheck/plan.Plan).Total -/
def C108 : CF := ⟨1, [(2, none)],
 .seq (.reg false [⟨some 1, .box 87 8 (.t 0), none, 0⟩,
   ⟨some 2, .mv (.c (.d (.v (.int .i64 0)))), none, 0⟩])
 (.seq (.seq (.reg false [⟨some 3, .fa 0 (.t 1), none, 0⟩,
   ⟨some 4, .ld 8 true (.t 3), none, 0⟩,
   ⟨some 5, .call (.c (.fn (.func 64) [] [])) [.t 4], none, 0⟩,
   ⟨some 6, .eq .int true (.t 5) (.c (.d (.v (.int .i64 0)))), none, 0⟩])
 (.cond 6 (.seq (.reg false [⟨some 2, .mv (.c (.d (.v (.int .i64 0)))), none, 0⟩])
   (.ret))
   (.skip)))
 (.seq (.reg false [⟨some 7, .fa 0 (.t 1), none, 0⟩,
   ⟨some 8, .fa 1 (.t 7), none, 0⟩,
   ⟨some 9, .ld 1 false (.t 8), none, 0⟩,
   ⟨some 10, .fa 0 (.t 1), none, 0⟩,
   ⟨some 11, .fa 2 (.t 10), none, 0⟩,
   ⟨some 12, .ld 1 false (.t 11), none, 0⟩,
   ⟨some 13, .bin .mul (.t 9) (.t 12), none, 0⟩,
   ⟨some 2, .mv (.t 13), none, 0⟩])
 (.ret)))⟩
theorem c108 : coF Try.prog Try.f65 = some C108 := by kernel_rfl
def A108 : Ann := { keep := [0, 1, 2, 6], live := [] }
def E108 {Ω : Type} : Env Ω := econs 64 S106 (enil)
theorem e108 : GoodE Try.prog E108 := GoodE.cons g106 (GoodE.nil)
def S108 {Ω : Type} : Spec Ω := inl E108 A108 C108 false
theorem g108 : Good1 Try.prog 65 S108 := Good1.inl e108 mix Try.func65 (by kernel_rfl) c108 A108 false
end Go.Sx.Pr

/- Contract: the number of words. -/
namespace Go.Sx.Pr
open Go Go.Sx Go.Proofs
set_option maxRecDepth 100000

end Go.Sx.Pr

namespace Go.Sx.Pr
open Go Go.Sx Go.Proofs
set_option maxRecDepth 100000
/-- (coatcheck/plan.Plan).at -/
def C122 : CF := ⟨5, [(10, none)],
 .seq (.reg false [⟨some 5, .box 87 8 (.t 0), none, 0⟩,
   ⟨some 10, .mv (.c (.d (.v (.int .i64 0)))), none, 0⟩])
 (.seq (.seq (.reg false [⟨some 11, .mv (.t 2), none, 0⟩,
   ⟨some 12, .bin .lss (.t 11) (.c (.d (.v (.int .i64 0)))), none, 0⟩,
   ⟨some 13, .mv (.t 12), none, 0⟩,
   ⟨some 14, .mv (.t 2), some (13, false), 0⟩,
   ⟨some 15, .mv (.t 3), some (13, false), 0⟩,
   ⟨some 16, .bin .geq (.t 14) (.t 15), some (13, false), 0⟩,
   ⟨some 17, .pick (.t 13) (.c (.d (.v (.bool true)))) (.t 16), none, 0⟩,
   ⟨some 18, .mv (.t 17), none, 0⟩,
   ⟨some 19, .fa 0 (.t 5), some (18, false), 0⟩,
   ⟨some 20, .ld 8 true (.t 19), some (18, false), 0⟩,
   ⟨some 21, .call (.c (.fn (.func 64) [] [])) [.t 20], some (18, false), 0⟩,
   ⟨some 22, .eq .int true (.t 21) (.c (.d (.v (.int .i64 0)))), some (18, false), 0⟩,
   ⟨some 23, .pick (.t 18) (.c (.d (.v (.bool true)))) (.t 22), none, 0⟩])
 (.cond 23 (.seq (.reg false [⟨some 10, .mv (.c (.d (.v (.int .i64 (-1))))), none, 0⟩])
   (.ret))
   (.skip)))
 (.seq (.reg false [⟨some 24, .mv (.t 1), none, 0⟩,
   ⟨some 25, .mv (.t 2), none, 0⟩,
   ⟨some 26, .mv (.t 4), none, 0⟩,
   ⟨some 27, .bin .mul (.t 25) (.t 26), none, 0⟩,
   ⟨some 28, .bin .add (.t 24) (.t 27), none, 0⟩,
   ⟨some 10, .mv (.t 28), none, 0⟩])
 (.ret)))⟩
theorem c122 : coF Try.prog Try.f81 = some C122 := by kernel_rfl
def A122 : Ann := { keep := [0, 1, 2, 3, 4, 5, 10, 23], live := [] }
def E122 {Ω : Type} : Env Ω := econs 64 S106 (enil)
theorem e122 : GoodE Try.prog E122 := GoodE.cons g106 (GoodE.nil)
def S122 {Ω : Type} : Spec Ω := inl E122 A122 C122 false
theorem g122 : Good1 Try.prog 81 S122 := Good1.inl e122 mix Try.func81 (by kernel_rfl) c122 A122 false
end Go.Sx.Pr

/- A law's arguments as symbolic values. -/
namespace Go.Sx

def getI : DV → Int
  | .v (.int _ x) => x
  | _ => 0

theorem wt_int {P : Program} {n : Nat} {t : TypeId} {k : IntKind} (hu : P.underlying t = some (.int k)) {l : List DV} (h : Wt P (n + 1) t l) : ∃ x, l = [.v (.int k x)] ∧ (Lit.int k x).wf = true := by
  simpa only [Wt, hu] using h

/-- A struct of integers. -/
theorem wt_ints {P : Program} {n : Nat} : ∀ {ks : List IntKind} {l : List DV}, l.length = ks.length → (∀ (j : Nat) (k : IntKind), ks[j]? = some k → ∃ x, (l.drop j).take 1 = [.v (.int k x)] ∧ (Lit.int k x).wf = true) →
    ∃ xs : List Int, xs.length = ks.length ∧ l = List.zipWith (fun k x => DV.v (.int k x)) ks xs ∧ ∀ (j : Nat) (k : IntKind), ks[j]? = some k → (Lit.int k (xs.getD j 0)).wf = true
  | [], l, hl, _ => ⟨[], rfl, by simpa using hl, by simp⟩
  | k :: ks, l, hl, h => by
    match l, hl with
    | y :: r, hl =>
      obtain ⟨x, h1, h2⟩ := h 0 k rfl
      obtain ⟨xs, e1, e2, e3⟩ := wt_ints (P := P) (n := n) (ks := ks) (l := r) (by simpa using hl) (fun j k' hk => by simpa using h (j + 1) k' (by simpa using hk))
      refine ⟨x :: xs, by simp [e1], ?_, fun j k' hk => ?_⟩
      · simp only [List.zipWith_cons_cons]
        rw [← e2]
        simp at h1
        rw [h1]
      · cases j with
        | zero => simp at hk; subst hk; simpa using h2
        | succ j => simpa using e3 j k' (by simpa using hk)
    | [], hl => simp at hl

theorem u64_wf {x : Int} (h : (Lit.int .u64 x).wf = true) : 0 ≤ x ∧ x ≤ 18446744073709551615 := by
  simp only [Lit.wf, Bool.and_eq_true, IntKind.min, IntKind.max, IntKind.signed, IntKind.bits] at h
  simpa using h

theorem agg_rep {cx : Cx} {w : World} {l : List DV} {v : Value} (h : DRepL cx.fz w l v.cells.toList) (hl : l.length ≠ 1) : SRep cx w (.agg (l.map .d)) v := by
  have key : ∀ (l : List DV) (c : List Value), DRepL cx.fz w l c → SRepL cx w (l.map .d) c := by
    intro l
    induction l with
    | nil =>
      intro c h
      have : c = [] := by simpa using h.1.symm
      subst this; simp [SRepL]
    | cons x r ih =>
      intro c h
      match c, h with
      | v :: c, h =>
        simp only [List.map_cons, SRepL, SRep]
        refine ⟨by simpa using h.2 0 (by simp), ih c ⟨by simpa using h.1, fun j hj => by simpa using h.2 (j + 1) (by simpa using hj)⟩⟩
      | [], h => have := h.1; simp at this
  cases v with
  | agg c =>
    simp only [SRep]
    exact ⟨c.toList, by simp, key l _ (by simpa [Value.cells] using h)⟩
  | _ => exact absurd (by simpa [Value.cells] using h.1) hl

theorem cell_rep {fz : Nat → Prop} {w : World} {x : DV} {v : Value} (h : DRepL fz w [x] v.cells.toList) (hn : ∀ c, v ≠ .agg c) : DRep fz w x v := by
  have e : v.cells = #[v] := by
    cases v with
    | agg c => exact absurd rfl (hn c)
    | _ => rfl
  rw [e] at h
  simpa using h.2 0 (by simp)

/-- Fields of one cell, integers of these kinds. -/
def fieldsInt (P : Program) : List Field → List IntKind → Nat → Bool
  | [], [], _ => true
  | f :: fs, k :: ks, j => Nat.beq f.offset j && (Nat.beq (P.cellsOf f.type) 1 && ((match P.underlying f.type with | some (.int k') => kEq k k' | _ => false) && fieldsInt P fs ks (j + 1)))
  | _, _, _ => false

theorem fieldsInt_wt {P : Program} {n : Nat} {l : List DV} : ∀ {fs : List Field} {ks : List IntKind} {j0 : Nat}, fieldsInt P fs ks j0 = true → (∀ f ∈ fs, Wt P (n + 1) f.type ((l.drop f.offset).take (P.cellsOf f.type))) →
    ∀ (j : Nat) (k : IntKind), ks[j]? = some k → ∃ x, (l.drop (j0 + j)).take 1 = [.v (.int k x)] ∧ (Lit.int k x).wf = true
  | [], [], j0, _, _, j, k, hk => by simp at hk
  | f :: fs, k0 :: ks, j0, h, hw, j, k, hk => by
    simp only [fieldsInt, Bool.and_eq_true] at h
    obtain ⟨h1, h2, h3, h4⟩ := h
    cases j with
    | zero =>
      simp only [List.getElem?_cons_zero, Option.some.injEq] at hk
      subst hk
      have := hw f (by simp)
      rw [nbeq.1 h1, nbeq.1 h2] at this
      split at h3
      · rename_i k' hu
        rw [← kEq_eq h3] at hu
        exact wt_int hu (by simpa using this)
      · cases h3
    | succ j =>
      have := fieldsInt_wt h4 (fun f hf => hw f (by simp [hf])) j k (by simpa using hk)
      rwa [show j0 + 1 + j = j0 + (j + 1) by omega] at this
  | [], _ :: _, _, h, _, _, _, _ => by simp [fieldsInt] at h
  | _ :: _, [], _, h, _, _, _, _ => by simp [fieldsInt] at h

theorem wt_struct {P : Program} {n : Nat} {t : TypeId} {fs : Array Field} {ks : List IntKind} (hu : P.underlying t = some (.struct fs)) (hc : P.cellsOf t = ks.length) (hf : fieldsInt P fs.toList ks 0 = true) {l : List DV} (h : Wt P (n + 2) t l) :
    ∃ xs : List Int, xs.length = ks.length ∧ l = List.zipWith (fun k x => DV.v (.int k x)) ks xs ∧ ∀ (j : Nat) (k : IntKind), ks[j]? = some k → (Lit.int k (xs.getD j 0)).wf = true := by
  rw [show n + 2 = (n + 1) + 1 from rfl] at h
  simp only [Wt, hu] at h
  exact wt_ints (P := P) (n := n) (h.1.trans hc) fun j k hk => by simpa using fieldsInt_wt hf h.2 j k hk
end Go.Sx

/- Contracts with several outcomes; rows of which only what lies within counts. -/
namespace Go.Sx

def alts {Ω : Type} (k : SV → List Nat → List Nat → SH → Option Ω) (h : SH) : List (Bool × SV × SH) → Option Ω
  | [] => none
  | (g, r, hr) :: rest => br g (k (shft h.length r) [] [] (h ++ shftH h.length hr)) (alts k h rest)

def firstAlt : List (Bool × SV × SH) → Option (SV × SH)
  | [] => none
  | (g, r, hr) :: rest => bif g then some (r, hr) else firstAlt rest

def conSpecL (ts : List AT) (F : List (List Int) → List (Bool × SV × SH)) {Ω : Type} : Spec Ω := fun args h k =>
  match lendAs h ts args with
  | some l => alts k h (F l)
  | none => none

theorem alts_first {Ω : Type} {k : SV → List Nat → List Nat → SH → Option Ω} {h : SH} {out : Ω} : ∀ {L : List (Bool × SV × SH)}, alts k h L = some out → ∃ r hr, firstAlt L = some (r, hr) ∧ k (shft h.length r) [] [] (h ++ shftH h.length hr) = some out
  | [], e => by cases e
  | (g, r, hr) :: rest, e => by
    cases g with
    | true => exact ⟨r, hr, rfl, e⟩
    | false =>
      obtain ⟨r', hr', h1, h2⟩ := alts_first (L := rest) e
      exact ⟨r', hr', h1, h2⟩

theorem alts_of {Ω : Type} {k : SV → List Nat → List Nat → SH → Option Ω} {h : SH} : ∀ {L : List (Bool × SV × SH)} {r : SV} {hr : SH}, firstAlt L = some (r, hr) → alts k h L = k (shft h.length r) [] [] (h ++ shftH h.length hr)
  | [], r, hr, e => by cases e
  | (g, r', hr') :: rest, r, hr, e => by
    cases g with
    | true =>
      simp only [firstAlt, cond_true, Option.some.injEq, Prod.mk.injEq] at e
      obtain ⟨rfl, rfl⟩ := e
      rfl
    | false => exact alts_of (L := rest) e

theorem conL_par {ts : List AT} {F : List (List Int) → List (Bool × SV × SH)} {Ω Ω' : Type} : SpecPar (conSpecL ts F (Ω := Ω)) (conSpecL ts F (Ω := Ω')) := by
  intro args h k out hs
  unfold conSpecL at hs ⊢
  split at hs
  · rename_i l hl
    obtain ⟨r, hr, h1, h2⟩ := alts_first hs
    exact ⟨_, _, _, _, h2, fun k' => alts_of h1⟩
  · cases hs

/-- The same, but for what lies outside of a row. -/
def RowEqO (o o' : SO) : Prop := o = o' ∨ ∃ t sz n f f', o = .row t sz n f ∧ o' = .row t sz n f' ∧ ∀ i, i < n → ∀ j, j < sz → f i j = f' i j
def RowEq : SH → SH → Prop
  | [], [] => True
  | o :: r, o' :: r' => RowEqO o o' ∧ RowEq r r'
  | _, _ => False

theorem RowEq.refl : ∀ h : SH, RowEq h h
  | [] => trivial
  | _ :: r => ⟨.inl rfl, RowEq.refl r⟩
theorem RowEq.length : ∀ {h h' : SH}, RowEq h h' → h.length = h'.length
  | [], [], _ => rfl
  | _ :: r, _ :: r', e => by simp [RowEq.length e.2]
  | [], _ :: _, e => e.elim
  | _ :: _, [], e => e.elim
theorem RowEq.get : ∀ {h h' : SH}, RowEq h h' → ∀ l, RowEqO (hget h l) (hget h' l)
  | [], [], _, l => .inl rfl
  | _ :: r, _ :: r', e, 0 => by simpa [hget] using e.1
  | _ :: r, _ :: r', e, l + 1 => by simpa [hget] using RowEq.get e.2 l
  | [], _ :: _, e, _ => e.elim
  | _ :: _, [], e, _ => e.elim

theorem Gam.rowEq {cx : Cx} {h h' : SH} {w : World} (g : Gam cx h w) (e : RowEq h h') : Gam cx h' w := by
  have hlv : ∀ l, liv cx h' l → liv cx h l := fun l hl => by
    rcases e.get l with e1 | ⟨t, sz, n, f, f', e1, e2, _⟩
    · unfold liv at hl ⊢; rw [e1]; exact hl
    · unfold liv at hl ⊢; rw [e2] at hl; rw [e1]; exact hl
  refine ⟨by rw [← e.length]; exact g.n, fun l => ?_, fun l hl => g.lt l (hlv l hl), fun l hl => g.own l (hlv l hl), fun l m hl hm => g.inj l m (hlv l hl) (hlv m hm), g.fzlt, g.dj⟩
  have ho := g.obj l
  rcases e.get l with e1 | ⟨t, sz, n, f, f', e1, e2, e3⟩
  · rw [← e1]; exact ho
  · rw [e1] at ho
    rw [e2]
    simp only [ORep] at ho ⊢
    refine ⟨ho.1, ho.2.1, ho.2.2.1, ho.2.2.2.1, fun hn => ?_⟩
    obtain ⟨t', c', h1, h2, h3⟩ := ho.2.2.2.2 hn
    refine ⟨t', c', h1, h2, fun i hi j hj => ?_⟩
    obtain ⟨x, hx, hr⟩ := h3 i hi j hj
    exact ⟨x, hx, by rw [← e3 i hi j hj]; exact hr⟩

theorem conGoodL {P : Program} {g : Nat} {fn : Func} (hf : P.funcs[g]? = some fn) (hname : (fn.name == "runtime.NumGoroutine") = false) {C : CF} (hC : coF P fn = some C) {A : Ann} {e : {Ω : Type} → Env Ω} (he : GoodE P e) (hmix : P.follows .mixedOrders = true)
    {ts : List AT} {F : List (List Int) → List (Bool × SV × SH)}
    (hrun : ∀ l r hr, lenAs ts l → firstAlt (F l) = some (r, hr) → Flat r ∧ FlatH hr ∧ ∃ hr0 H, RowEq hr0 hr ∧ trim 0 r [] H = hr0 ∧ sxFn (e (Ω := SV × SH)) A C (encAs ts l) [] (fun r h => some (r, h)) = some (r, H)) :
    Good1 P g (fun {Ω} => conSpecL ts F (Ω := Ω)) := by
  have hbody : ∃ c, fn.body = some c := by
    unfold coF at hC
    split at hC
    · rename_i c hb; exact ⟨c, hb⟩
    · cases hC
  obtain ⟨c, hb⟩ := hbody
  have henter : ∀ (args : Array Value) (w : World), (callFunc g args).run P w = .ok (.enter g args) w := fun args w => by
    have h1 : fn.name ≠ "runtime.NumGoroutine" := by simpa using hname
    simp [callFunc, hf, h1, hb]
  refine ⟨fun Ω => ⟨henter, fun args h k out hs => ?_⟩, fun Ω Ω' => conL_par⟩
  unfold conSpecL at hs
  split at hs
  · rename_i l hl
    obtain ⟨r, hr, hF, hk⟩ := alts_first hs
    obtain ⟨f1, f2, hr0, H, heq, htr, hrun⟩ := hrun l r hr (lendAs_len hl) hF
    refine ⟨_, [], [], _, hk, ⟨by simp, fun l hl _ => by rw [hget_app, if_pos hl]⟩, fun cx w vals hg ha => ?_⟩
    refine (fn_calls (he.ok _) hmix hf hC hrun (cxA w) w vals (gamL w _) (lendAs_ok hg hl ha)).mono fun e w' ⟨v, cxq, e1, grq, hrq, hGq⟩ => ?_
    obtain ⟨cxs, hG, hr', hgrow⟩ := trim_sound (n0 := 0) (m := []) hGq hrq
    rw [htr] at hG
    have gr := hgrow (Nat.le_refl _) grq
    obtain ⟨k1, k2⟩ := join_flat hg gr (hG.rowEq heq) f2
    have nm : (fun l => nmem l []) = fun _ => false := funext fun l => by simp [nmem]
    rw [nm]
    exact ⟨v, _, e1, k2, by rw [← hg.n]; exact SRep.flat _ _ f1 hr', k1⟩
  · cases hs
end Go.Sx

/- Arguments of laws: a configuration, a list of words. -/
namespace Go.Sx.Pr
open Go Go.Sx Go.Proofs Go.ChangeShapes Go.WideShapes Go.ChangeAt Go.RowKit
set_option maxRecDepth 100000

theorem laid : laidOutB Try.prog = true := by kernel_rfl
theorem rowed : mapsRowed Try.prog = true := by kernel_rfl
theorem slicesFull : ∀ t e, t < Try.prog.types.size → Try.prog.underlying t = some (.slice e) → 0 < Try.prog.cellsOf e := slices_full_of Try.prog (by kernel_rfl)
theorem typesN : Nat.blt 100 Try.prog.types.size = true := by kernel_rfl
theorem tlt {t : Nat} (h : t ≤ 100) : t < Try.prog.types.size := by
  have := Nat.le_of_ble_eq_true typesN
  omega
theorem cells24 : Try.prog.cellsOf 36 = 8 := by kernel_rfl

section
variable {H : Type} {enc : TypeId × Value → H} {w : World}

theorem cfg_arg {v : Value} {d : DataW H} {p : List MemPlace} (h : DataW.Trod enc Try.prog w 0 (fun _ => true) true 36 v d p) : ∃ a b c d e f g l, SRep (cx0 w) w (cfgS a b c d e f g l) v := by
  obtain ⟨n, L, hW, hR⟩ := arg_rep (kids_rows laid rowed) slicesFull (t := 36) (tlt (by omega)) (m := 2) (fun n => by simp only [suppT, Try.underlying36, Try.underlying3, Try.underlying27]; rfl) h
  obtain ⟨xs, h1, h2, _⟩ := wt_struct (ks := cfgK) Try.underlying36 cells24 (by kernel_rfl) hW
  obtain ⟨a, b, c, d, e, f, g, l, rfl⟩ := eight h1
  refine ⟨a, b, c, d, e, f, g, l, ?_⟩
  have := agg_rep (cx := cx0 w) hR (by rw [h2]; simp)
  rw [h2] at this
  exact this

end
end Go.Sx.Pr

/- Contract: the initial words, from the plan's layer. -/
namespace Go.Sx.Pr
open Go Go.Sx Go.Proofs
set_option maxRecDepth 100000

theorem br_t {α : Type} {x y : α} : br true x y = x := by first | exact _root_.id (Eq.refl _)
theorem br_f {α : Type} {x y : α} : br false x y = y := by first | exact _root_.id (Eq.refl _)
abbrev KS : SV → SH → Option (SV × SH) := fun r h => some (r, h)

end Go.Sx.Pr

/- Contract: the layout's list, each word's place written out. -/
namespace Go.Sx.Pr
open Go Go.Sx Go.Proofs
set_option maxRecDepth 100000

theorem blt_t {a b : Nat} (h : a < b) : Nat.blt a b = true := Nat.ble_eq_true_of_le h
theorem blt_f {a b : Nat} (h : b ≤ a) : Nat.blt a b = false := by
  cases e : Nat.blt a b with
  | false => rfl
  | true => have := Nat.le_of_ble_eq_true e; omega

theorem acc_lo {q : Nat → Nat → DV} {m0 w : Nat} {ds : Nat → List DV} : ∀ {n i j : Nat}, i < m0 → acc 3 q m0 w ds n i j = q i j
  | 0, _, _, _ => rfl
  | n + 1, i, j, h => by
    have : i < m0 + w * n := by omega
    simp only [acc, catF]
    rw [blt_t this, cond_true]
    exact acc_lo h

theorem acc_hi {q : Nat → Nat → DV} {m0 w : Nat} {ds : Nat → List DV} (hw : 0 < w) : ∀ {n i j : Nat}, m0 ≤ i → i < m0 + w * n → acc 3 q m0 w ds n i j = lkD (ds ((i - m0) / w)) (((i - m0) % w) * 3 + j)
  | 0, i, _, h1, h2 => by omega
  | n + 1, i, j, h1, h2 => by
    simp only [acc, catF]
    rcases Nat.lt_or_ge i (m0 + w * n) with h | h
    · rw [blt_t h, cond_true]; exact acc_hi hw h1 h
    · rw [blt_f h, cond_false]
      have h3 : w * (n + 1) = w * n + w := Nat.mul_succ _ _
      have e : i - m0 = w * n + (i - (m0 + w * n)) := by omega
      have hr : i - (m0 + w * n) < w := by omega
      rw [e, Nat.mul_add_div hw, Nat.mul_add_mod, Nat.div_eq_of_lt hr, Nat.mod_eq_of_lt hr, Nat.add_zero]

theorem blk_lo {D : Nat} {q : Nat → Nat → DV} {m0 : Nat} : ∀ {n i j : Nat}, i < m0 → blkA D q m0 n i j = q i j
  | 0, _, _, _ => rfl
  | n + 1, i, j, h => by
    simp only [blkA]
    rw [acc_lo (by omega)]
    simp only [catF]
    rw [blt_t (by omega), cond_true]
    exact blk_lo h

theorem blk_hi {D : Nat} {q : Nat → Nat → DV} {m0 : Nat} : ∀ {n i j : Nat}, m0 ≤ i → i < m0 + (1 + D) * n →
    blkA D q m0 n i j = if (i - m0) % (1 + D) = 0 then lkD [dI 5, dI ((i - m0) / (1 + D) : Nat), dI 0] j else lkD (d6 ((i - m0) / (1 + D) : Nat) ((i - m0) % (1 + D) - 1)) j
  | 0, i, _, h1, h2 => by omega
  | n + 1, i, j, h1, h2 => by
    have h3 : (1 + D) * (n + 1) = (1 + D) * n + (1 + D) := Nat.mul_succ _ _
    simp only [blkA]
    rcases Nat.lt_or_ge i (m0 + (1 + D) * n) with h | h
    · rw [acc_lo (by omega)]
      simp only [catF]
      rw [blt_t h, cond_true]
      exact blk_hi h1 h
    · have e : i - m0 = (1 + D) * n + (i - (m0 + (1 + D) * n)) := by omega
      have hr : i - (m0 + (1 + D) * n) < 1 + D := by omega
      rw [e, Nat.mul_add_div (by omega), Nat.mul_add_mod, Nat.div_eq_of_lt hr, Nat.mod_eq_of_lt hr, Nat.add_zero]
      rcases Nat.eq_or_lt_of_le h with h4 | h4
      · subst h4
        rw [acc_lo (by omega)]
        simp only [catF]
        rw [blt_f (Nat.le_refl _), cond_false, Nat.sub_self, if_pos rfl]
        simp only [ap, Nat.zero_mul, Nat.zero_add]
        rfl
      · rw [acc_hi (by omega) (by omega) (by omega), if_neg (by omega)]
        have e2 : (i - (m0 + (1 + D) * n + 1)) / 1 = i - (m0 + (1 + D) * n) - 1 := by rw [Nat.div_one]; omega
        have e3 : (i - (m0 + (1 + D) * n + 1)) % 1 = 0 := Nat.mod_one _
        rw [e2, e3, Nat.zero_mul, Nat.zero_add]
        rfl

/-- What word i is. -/
def spotL (A Bn D E i : Nat) : List Int :=
  if i < 3 then [0, i, 0] else if i < 3 + A then [1, (i - 3 : Nat), 0] else if i < 3 + A + Bn then [2, (i - (3 + A) : Nat), 0]
  else if i < 3 + A + Bn + 2 * E then [(if (i - (3 + A + Bn)) % 2 = 0 then 3 else 4), ((i - (3 + A + Bn)) / 2 : Nat), 0]
  else if (i - (3 + A + Bn + 2 * E)) % (1 + D) = 0 then [5, ((i - (3 + A + Bn + 2 * E)) / (1 + D) : Nat), 0] else [6, ((i - (3 + A + Bn + 2 * E)) / (1 + D) : Nat), ((i - (3 + A + Bn + 2 * E)) % (1 + D) - 1 : Nat)]
def spot (A Bn D E i j : Nat) : Int := (spotL A Bn D E i).getD j 0

theorem qAll_spot {A Bn Cn D E i j : Nat} (hi : i < sizeN A Bn Cn D E) (hj : j < 3) : qAll A Bn Cn D E i j = .v (.int .i64 (spot A Bn D E i j)) := by
  unfold qAll spot spotL
  unfold sizeN at hi
  simp only [Nat.one_mul] at *
  split
  · rename_i h
    rw [blk_lo (by omega), acc_lo (by omega), acc_lo (by omega), acc_lo (by omega)]
    match i, h, j, hj with
    | 0, _, 0, _ | 0, _, 1, _ | 0, _, 2, _ | 1, _, 0, _ | 1, _, 1, _ | 1, _, 2, _ | 2, _, 0, _ | 2, _, 1, _ | 2, _, 2, _ => rfl
  · split
    · rw [blk_lo (by omega), acc_lo (by omega), acc_lo (by omega), acc_hi (by omega) (by omega) (by omega), Nat.div_one, Nat.mod_one, Nat.zero_mul, Nat.zero_add]
      match j, hj with
      | 0, _ | 1, _ | 2, _ => rfl
    · split
      · rw [blk_lo (by omega), acc_lo (by omega), acc_hi (by omega) (by omega) (by omega), Nat.div_one, Nat.mod_one, Nat.zero_mul, Nat.zero_add]
        match j, hj with
        | 0, _ | 1, _ | 2, _ => rfl
      · split
        · rw [blk_lo (by omega), acc_hi (by omega) (by omega) (by omega)]
          rcases Nat.mod_two_eq_zero_or_one (i - (3 + A + Bn)) with h | h
          · rw [h, if_pos rfl]
            match j, hj with
            | 0, _ | 1, _ | 2, _ => rfl
          · rw [h, if_neg (by omega)]
            match j, hj with
            | 0, _ | 1, _ | 2, _ => rfl
        · rw [blk_hi (by omega) (by omega)]
          split
          · match j, hj with
            | 0, _ | 1, _ | 2, _ => rfl
          · match j, hj with
            | 0, _ | 1, _ | 2, _ => rfl

def FAllN : List (List Int) → List (Bool × SV × SH)
  | [[a, b, c, d, e, f, g, l]] => [(chk a b c d e f g l == 0, .own 3, [.dead, .dead, .dead, .row 107 3 (sizeN a.toNat b.toNat c.toNat d.toNat e.toNat) (fun i j => .v (.int .i64 (spot a.toNat b.toNat d.toNat e.toNat i j)))])]
  | _ => []
def S20n {Ω : Type} : Spec Ω := conSpecL [.g cfgK] FAllN
theorem g20n : Good1 Try.prog 67 S20n := conGoodL Try.func67 (by kernel_rfl) c20 e20 mix (A := A20) fun L r hr hl hF => by
  obtain ⟨x, rfl, hx⟩ := lenAs_one hl
  obtain ⟨a, b, c, d, e, f, g, i, rfl⟩ := eight hx
  simp only [FAllN, firstAlt] at hF
  cases h : (chk a b c d e f g i == 0) with
  | false => rw [h] at hF; cases hF
  | true =>
    rw [h] at hF
    simp only [cond_true, Option.some.injEq, Prod.mk.injEq] at hF
    obtain ⟨rfl, rfl⟩ := hF
    exact ⟨trivial, ⟨trivial, trivial, trivial, fun _ _ => ⟨_, rfl⟩, trivial⟩, [.dead, .dead, .dead, .row 107 3 (sizeN a.toNat b.toNat c.toNat d.toNat e.toNat) (qAll a.toNat b.toNat c.toNat d.toNat e.toNat)], _,
      ⟨.inl rfl, .inl rfl, .inl rfl, .inr ⟨_, _, _, _, _, rfl, rfl, fun i hi j hj => qAll_spot hi hj⟩, trivial⟩, by kernel_rfl, v20 _ (by simpa using h)⟩
end Go.Sx.Pr

/- Contracts whose answer is a new row that nobody writes any more: data. -/
namespace Go.Sx

def altsD {Ω : Type} (k : SV → List Nat → List Nat → SH → Option Ω) (h : SH) : List (Bool × Nat × Nat × (Nat → Nat → Value)) → Option Ω
  | [] => none
  | (g, sz, n, f) :: rest => br g (k (.d (.sl sz n fun i j => .v (f i j))) [] [] h) (altsD k h rest)

def firstD : List (Bool × Nat × Nat × (Nat → Nat → Value)) → Option (Nat × Nat × (Nat → Nat → Value))
  | [] => none
  | (g, x) :: rest => bif g then some x else firstD rest

def conSpecD (ts : List AT) (F : List (List Int) → List (Bool × Nat × Nat × (Nat → Nat → Value))) {Ω : Type} : Spec Ω := fun args h k =>
  match lendAs h ts args with
  | some l => altsD k h (F l)
  | none => none

theorem altsD_first {Ω : Type} {k : SV → List Nat → List Nat → SH → Option Ω} {h : SH} {out : Ω} : ∀ {L : List (Bool × Nat × Nat × (Nat → Nat → Value))}, altsD k h L = some out → ∃ sz n f, firstD L = some (sz, n, f) ∧ k (.d (.sl sz n fun i j => .v (f i j))) [] [] h = some out
  | [], e => by cases e
  | (g, sz, n, f) :: rest, e => by
    cases g with
    | true => exact ⟨sz, n, f, rfl, e⟩
    | false =>
      obtain ⟨sz', n', f', h1, h2⟩ := altsD_first (L := rest) e
      exact ⟨sz', n', f', h1, h2⟩

theorem altsD_of {Ω : Type} {k : SV → List Nat → List Nat → SH → Option Ω} {h : SH} : ∀ {L : List (Bool × Nat × Nat × (Nat → Nat → Value))} {sz n : Nat} {f : Nat → Nat → Value}, firstD L = some (sz, n, f) → altsD k h L = k (.d (.sl sz n fun i j => .v (f i j))) [] [] h
  | [], _, _, _, e => by cases e
  | (g, x) :: rest, sz, n, f, e => by
    cases g with
    | true =>
      simp only [firstD, cond_true, Option.some.injEq] at e
      subst e
      rfl
    | false => exact altsD_of (L := rest) e

theorem conD_par {ts : List AT} {F : List (List Int) → List (Bool × Nat × Nat × (Nat → Nat → Value))} {Ω Ω' : Type} : SpecPar (conSpecD ts F (Ω := Ω)) (conSpecD ts F (Ω := Ω')) := by
  intro args h k out hs
  unfold conSpecD at hs ⊢
  split at hs
  · rename_i l hl
    obtain ⟨sz, n, f, h1, h2⟩ := altsD_first hs
    exact ⟨_, _, _, _, h2, fun k' => altsD_of h1⟩
  · cases hs

theorem conGoodD {P : Program} {g : Nat} {fn : Func} (hf : P.funcs[g]? = some fn) (hname : (fn.name == "runtime.NumGoroutine") = false) {C : CF} (hC : coF P fn = some C) {A : Ann} {e : {Ω : Type} → Env Ω} (he : GoodE P e) (hmix : P.follows .mixedOrders = true)
    {ts : List AT} {F : List (List Int) → List (Bool × Nat × Nat × (Nat → Nat → Value))}
    (hrun : ∀ l sz n f, lenAs ts l → firstD (F l) = some (sz, n, f) → ∃ L H t q, sxFn (e (Ω := SV × SH)) A C (encAs ts l) [] (fun r h => some (r, h)) = some (.own L, H) ∧ hget H L = .row t sz n q ∧ ∀ i, i < n → ∀ j, j < sz → q i j = .v (f i j)) :
    Good1 P g (fun {Ω} => conSpecD ts F (Ω := Ω)) := by
  have hbody : ∃ c, fn.body = some c := by
    unfold coF at hC
    split at hC
    · rename_i c hb; exact ⟨c, hb⟩
    · cases hC
  obtain ⟨c, hb⟩ := hbody
  have henter : ∀ (args : Array Value) (w : World), (callFunc g args).run P w = .ok (.enter g args) w := fun args w => by
    have h1 : fn.name ≠ "runtime.NumGoroutine" := by simpa using hname
    simp [callFunc, hf, h1, hb]
  refine ⟨fun Ω => ⟨henter, fun args h k out hs => ?_⟩, fun Ω Ω' => conD_par⟩
  unfold conSpecD at hs
  split at hs
  · rename_i l hl
    obtain ⟨sz, n, f, hF, hk⟩ := altsD_first hs
    obtain ⟨L, H, t, q, hrun, hrow, hq⟩ := hrun l sz n f (lendAs_len hl) hF
    refine ⟨_, [], [], _, hk, ⟨Nat.le_refl _, fun _ _ _ => rfl⟩, fun cx w vals hg ha => ?_⟩
    refine (fn_calls (he.ok _) hmix hf hC hrun (cxA w) w vals (gamL w _) (lendAs_ok hg hl ha)).mono fun e w' ⟨v, cxs, e1, gr, hr, hG⟩ => ?_
    have hsame : ∀ b, b < w.heap.size → w'.heap[b]? = w.heap[b]? := fun b hb => gr.same b (cxL_all hb)
    have hobj := hG.obj L
    rw [hrow] at hobj
    obtain ⟨hln, hrs, hcp, hz, hh⟩ := hobj
    simp only [SRep] at hr
    have hnew : cxs.nl L = false → w.heap.size ≤ cxs.th L ∧ cxs.th L < w'.heap.size := fun hnl => by
      have hlv : liv cxs H L := by simp [liv, hrow, hnl]
      refine ⟨?_, hG.lt L hlv⟩
      rcases Nat.lt_or_ge (cxs.th L) w.heap.size with h1 | h1
      · exact absurd (gr.hd _ (cxL_all h1)) (hG.own L hlv)
      · exact h1
    have gr2 : Grow0 cx w { cx with fz := fun b => cx.fz b ∨ (b = cxs.th L ∧ cxs.nl L = false) } w' :=
      ⟨fun _ hb => .inl hb, fun b hb => hsame b (hg.fzlt b hb), gr.size, fun l hl _ => ⟨hl, rfl, rfl, rfl, rfl, rfl⟩, rfl, gr.io⟩
    have hlv : ∀ l, liv { cx with fz := fun b => cx.fz b ∨ (b = cxs.th L ∧ cxs.nl L = false) } h l → liv cx h l := fun l hl => hl
    have nm : (fun l => nmem l []) = fun _ => false := funext fun l => by simp [nmem]
    rw [nm]
    refine ⟨v, _, e1, gr2, ?_, ⟨hg.n, fun m => ?_, fun m hm => Nat.lt_of_lt_of_le (hg.lt m (hlv m hm)) gr.size, fun m hm hhd => ?_, fun a b ha hb => hg.inj a b (hlv a ha) (hlv b hb), fun b hb => ?_, fun b hb hfr => ?_⟩⟩
    · simp only [SRep, DRep]
      refine ⟨_, _, by rw [← hln]; exact hr.2, hcp, fun hn => ?_⟩
      cases hnl : cxs.nl L with
      | true => have := hz hnl; omega
      | false =>
        obtain ⟨t', c', hb, hs, hc⟩ := hh hnl
        refine ⟨cxs.th L, 0, by simp [], .inr ⟨rfl, rfl⟩, fun i hi j hj => ?_⟩
        obtain ⟨x, hx, hd⟩ := hc i hi j hj
        refine ⟨x, by simp [World.cell?, ad, hb, hx], ?_⟩
        rw [hq i hi j hj] at hd
        simpa [DRep] using hd
    · rcases Nat.lt_or_ge m h.length with hm | hm
      · exact ORep.keep (h := h) gr2 (hg.n ▸ hm) _ rfl (fun hv => hsame _ (hg.lt m hv)) (hg.obj m)
      · rw [hget_ge hm]; trivial
    · have h1 := hg.lt m (hlv m hm)
      rcases hhd with (h2 | ⟨h2, h3⟩) | h2
      · exact hg.own m (hlv m hm) (.inl h2)
      · have := (hnew h3).1
        simp only at h2
        omega
      · exact hg.own m (hlv m hm) (.inr h2)
    · rcases hb with (h2 | ⟨h2, h3⟩) | h2
      · exact Nat.lt_of_lt_of_le (hg.fzlt b (.inl h2)) gr.size
      · rw [h2]; exact (hnew h3).2
      · exact Nat.lt_of_lt_of_le (hg.fzlt b (.inr h2)) gr.size
    · rcases hb with h2 | ⟨h2, h3⟩
      · exact hg.dj b h2 hfr
      · have h4 := hg.fzlt b (.inr hfr)
        have := (hnew h3).1
        omega
  · cases hs
end Go.Sx

/- Arguments whose cells are integers, booleans and slices of integers: structs and arrays of such. -/
namespace Go.Sx

/-- What a cell holds. -/
inductive CT where
  | i (k : IntKind)
  | b
  | s (k : IntKind)

def tyC : DV → CT → Prop
  | x, .i k => ∃ n, x = .v (.int k n) ∧ (Lit.int k n).wf = true
  | x, .b => ∃ n, x = .v (.bool n)
  | x, .s k => ∃ xs : List Int, x = .ints k xs ∧ ∀ n ∈ xs, (Lit.int k n).wf = true

def Typ : List DV → List CT → Prop
  | [], [] => True
  | x :: r, c :: cs => tyC x c ∧ Typ r cs
  | _, _ => False

theorem Typ.append : ∀ {l l' : List DV} {a b : List CT}, Typ l a → Typ l' b → Typ (l ++ l') (a ++ b)
  | [], _, [], _, _, h => h
  | _ :: _, _, _ :: _, _, h, h' => ⟨h.1, Typ.append h.2 h'⟩
  | [], _, _ :: _, _, h, _ => h.elim
  | _ :: _, _, [], _, h, _ => h.elim

theorem Typ.split {l : List DV} {n : Nat} {a b : List CT} (h : Typ (l.take n) a) (h' : Typ (l.drop n) b) : Typ l (a ++ b) := by
  have := Typ.append h h'
  rwa [List.take_append_drop] at this

def flatFs (P : Program) (f : TypeId → Option (List CT)) : List Field → Nat → Option (List CT)
  | [], _ => some []
  | x :: r, o => match f x.type, flatFs P f r (o + P.cellsOf x.type) with
    | some a, some b => bif Nat.beq x.offset o then some (a ++ b) else none
    | _, _ => none

def copies : Nat → List CT → List CT
  | 0, _ => []
  | n + 1, a => a ++ copies n a

def sumFs (P : Program) : List Field → Nat
  | [] => 0
  | x :: r => P.cellsOf x.type + sumFs P r

/-- The cells of a type. -/
def flatT (P : Program) : Nat → TypeId → Option (List CT)
  | 0, _ => none
  | n + 1, t => match P.underlying t with
    | some .bool => some [.b]
    | some (.int k) => some [.i k]
    | some (.slice e) => match P.underlying e with
      | some (.int k) => some [.s k]
      | _ => none
    | some (.struct fs) => bif Nat.beq (P.cellsOf t) (sumFs P fs.toList) then flatFs P (flatT P n) fs.toList 0 else none
    | some (.array m e) => bif Nat.beq (P.cellsOf t) (m * P.cellsOf e) then (match flatT P n e with | some a => some (copies m a) | none => none) else none
    | _ => none

theorem flatFs_typ {P : Program} {f : TypeId → Option (List CT)} {l : List DV} : ∀ {fs : List Field} {o : Nat} {cs : List CT}, flatFs P f fs o = some cs →
    (∀ x ∈ fs, ∀ a, f x.type = some a → Typ ((l.drop x.offset).take (P.cellsOf x.type)) a) → l.length = o + sumFs P fs → Typ (l.drop o) cs
  | [], o, cs, h, _, hl => by
    simp only [flatFs, Option.some.injEq] at h
    subst h
    rw [List.drop_eq_nil_of_le (by simp only [sumFs] at hl; omega)]
    trivial
  | x :: r, o, cs, h, hx, hl => by
    simp only [flatFs] at h
    split at h
    · rename_i a b ha hb
      obtain ⟨ho, h⟩ := cond_some h
      simp only [Option.some.injEq] at h
      subst h
      simp only [sumFs] at hl
      have h1 := hx x (by simp) a ha
      rw [nbeq.1 ho] at h1
      have h2 := flatFs_typ (l := l) hb (fun y hy => hx y (by simp [hy])) (by omega)
      refine Typ.split (n := P.cellsOf x.type) h1 ?_
      rw [List.drop_drop]
      exact h2
    · cases h

theorem copies_typ {l : List DV} {c : Nat} {a : List CT} : ∀ {m o : Nat}, (∀ i, i < m → Typ ((l.drop (o + i * c)).take c) a) → l.length = o + m * c → Typ (l.drop o) (copies m a)
  | 0, o, _, hl => by
    rw [List.drop_eq_nil_of_le (by omega)]; trivial
  | m + 1, o, h, hl => by
    have h1 := h 0 (by omega)
    simp only [Nat.zero_mul, Nat.add_zero] at h1
    refine Typ.split (n := c) h1 ?_
    rw [List.drop_drop]
    rw [Nat.succ_mul] at hl
    refine copies_typ (c := c) (fun i hi => ?_) (by omega)
    have := h (i + 1) (by omega)
    rwa [Nat.succ_mul, show o + (i * c + c) = o + c + i * c by omega] at this

theorem flatT_typ {P : Program} : ∀ {n m : Nat} {t : TypeId} {l : List DV} {cs : List CT}, flatT P n t = some cs → Wt P (m + n) t l → Typ l cs
  | 0, m, t, l, cs, h, _ => by simp [flatT] at h
  | n + 1, m, t, l, cs, h, hw => by
    rw [show m + (n + 1) = (m + n) + 1 from rfl] at hw
    unfold flatT at h
    unfold Wt at hw
    cases hu : P.underlying t with
    | none => rw [hu] at h; cases h
    | some d =>
      rw [hu] at h hw
      cases d <;> simp only at h hw <;> try (cases h; done)
      case bool =>
        simp only [Option.some.injEq] at h; subst h
        obtain ⟨b, rfl⟩ := hw
        exact ⟨⟨b, rfl⟩, trivial⟩
      case int k =>
        simp only [Option.some.injEq] at h; subst h
        obtain ⟨x, rfl, hx⟩ := hw
        exact ⟨⟨x, rfl, hx⟩, trivial⟩
      case slice e =>
        cases he : P.underlying e with
        | none => rw [he] at h; cases h
        | some d' =>
          rw [he] at h hw
          cases d' <;> simp only at h hw <;> try (cases h; done)
          case int k =>
            simp only [Option.some.injEq] at h; subst h
            obtain ⟨xs, rfl, _, hx⟩ := hw
            exact ⟨⟨xs, rfl, hx⟩, trivial⟩
      case struct fs =>
        obtain ⟨hc, h⟩ := cond_some h
        have := flatFs_typ (l := l) h (fun x hx a ha => flatT_typ (m := m) ha (hw.2 x hx)) (by rw [hw.1, nbeq.1 hc]; omega)
        simpa using this
      case array mm e =>
        obtain ⟨hc, h⟩ := cond_some h
        split at h
        · rename_i a ha
          simp only [Option.some.injEq] at h; subst h
          have := copies_typ (l := l) (o := 0) (c := P.cellsOf e) (a := a) (m := mm) (fun i hi => by rw [Nat.zero_add]; exact flatT_typ (m := m) ha (hw.2 i hi)) (by rw [hw.1, nbeq.1 hc]; omega)
          simpa using this
        · cases h

def getB : DV → Bool
  | .v (.bool x) => x
  | _ => false
def getS : DV → List Int
  | .ints _ l => l
  | _ => []

/-- Cells by the numbers, truths and lists that they hold. -/
def cellsD : List CT → Nat → (Nat → Int) → (Nat → Bool) → (Nat → List Int) → List DV
  | [], _, _, _, _ => []
  | .i k :: r, j, iv, bv, sv => .v (.int k (iv j)) :: cellsD r (j + 1) iv bv sv
  | .b :: r, j, iv, bv, sv => .v (.bool (bv j)) :: cellsD r (j + 1) iv bv sv
  | .s k :: r, j, iv, bv, sv => .ints k (sv j) :: cellsD r (j + 1) iv bv sv

theorem typ_cells {iv : Nat → Int} {bv : Nat → Bool} {sv : Nat → List Int} : ∀ {l : List DV} {cts : List CT} {j : Nat}, Typ l cts → (∀ i, i < l.length → iv (j + i) = getI (l.getD i (.v undef))) → (∀ i, i < l.length → bv (j + i) = getB (l.getD i (.v undef))) →
    (∀ i, i < l.length → sv (j + i) = getS (l.getD i (.v undef))) → l = cellsD cts j iv bv sv
  | [], [], _, _, _, _, _ => rfl
  | x :: r, c :: cs, j, h, h1, h2, h3 => by
    have ih := typ_cells (l := r) (cts := cs) (j := j + 1) h.2 (fun i hi => by have := h1 (i + 1) (by simpa using hi); rw [show j + 1 + i = j + (i + 1) by omega]; simpa using this)
      (fun i hi => by have := h2 (i + 1) (by simpa using hi); rw [show j + 1 + i = j + (i + 1) by omega]; simpa using this)
      (fun i hi => by have := h3 (i + 1) (by simpa using hi); rw [show j + 1 + i = j + (i + 1) by omega]; simpa using this)
    have e1 := h1 0 (by simp)
    have e2 := h2 0 (by simp)
    have e3 := h3 0 (by simp)
    simp only [Nat.add_zero, List.getD_cons_zero] at e1 e2 e3
    cases c with
    | i k =>
      obtain ⟨n, rfl, _⟩ := h.1
      simp only [cellsD, e1, getI]
      rw [← ih]
    | b =>
      obtain ⟨n, rfl⟩ := h.1
      simp only [cellsD, e2, getB]
      rw [← ih]
    | s k =>
      obtain ⟨n, rfl, _⟩ := h.1
      simp only [cellsD, e3, getS]
      rw [← ih]
  | [], _ :: _, _, h, _, _, _ => h.elim
  | _ :: _, [], _, h, _, _, _ => h.elim

/-- What the cells hold is within their kinds. -/
def wfC (iv : Nat → Int) (sv : Nat → List Int) : List CT → Nat → Prop
  | [], _ => True
  | .i k :: r, j => (Lit.int k (iv j)).wf = true ∧ wfC iv sv r (j + 1)
  | .b :: r, j => wfC iv sv r (j + 1)
  | .s k :: r, j => (∀ n ∈ sv j, (Lit.int k n).wf = true) ∧ wfC iv sv r (j + 1)

theorem typ_wf {iv : Nat → Int} {bv : Nat → Bool} {sv : Nat → List Int} : ∀ {cts : List CT} {j : Nat}, Typ (cellsD cts j iv bv sv) cts → wfC iv sv cts j
  | [], _, _ => trivial
  | .i k :: r, j, h => by
    obtain ⟨n, e, hn⟩ := h.1
    simp only [DV.v.injEq, Value.int.injEq, true_and] at e
    subst e
    exact ⟨hn, typ_wf h.2⟩
  | .b :: r, j, h => typ_wf (cts := r) h.2
  | .s k :: r, j, h => by
    obtain ⟨n, e, hn⟩ := h.1
    simp only [DV.ints.injEq, true_and] at e
    subst e
    exact ⟨hn, typ_wf h.2⟩

/-- An aggregate's cells, by what they hold. -/
theorem agg_arg {P : Program} {n m : Nat} {t : TypeId} {cts : List CT} {l : List DV} {cx : Cx} {w : World} {v : Value} (hf : flatT P n t = some cts) (hl : cts.length ≠ 1) (hw : Wt P (m + n) t l) (hr : DRepL cx.fz w l v.cells.toList) :
    ∃ iv bv sv, wfC iv sv cts 0 ∧ SRep cx w (.agg ((cellsD cts 0 iv bv sv).map .d)) v := by
  have ht := flatT_typ hf hw
  have e := typ_cells (iv := fun i => getI (l.getD i (.v undef))) (bv := fun i => getB (l.getD i (.v undef))) (sv := fun i => getS (l.getD i (.v undef))) (j := 0) ht (fun i _ => by simp) (fun i _ => by simp) (fun i _ => by simp)
  refine ⟨fun i => getI (l.getD i (.v undef)), fun i => getB (l.getD i (.v undef)), fun i => getS (l.getD i (.v undef)), ?_, ?_⟩
  · generalize hI : (fun i => getI (l.getD i (.v undef))) = iv at e ⊢
    generalize hB : (fun i => getB (l.getD i (.v undef))) = bv at e ⊢
    generalize hS : (fun i => getS (l.getD i (.v undef))) = sv at e ⊢
    rw [e] at ht
    exact typ_wf ht
  · rw [← e]
    refine agg_rep hr fun h1 => hl ?_
    have key : ∀ (l : List DV) (c : List CT), Typ l c → l.length = c.length := by
      intro l
      induction l with
      | nil => intro c h; cases c with
        | nil => rfl
        | cons _ _ => exact h.elim
      | cons x r ih => intro c h; cases c with
        | nil => exact h.elim
        | cons y s => simp [ih s h.2]
    rw [← key l cts ht, h1]
end Go.Sx

/- Contracts with memory: a function that is given locs, known by what it answers and by what it leaves in them. -/
namespace Go.Sx

/-! ### locs under other names -/
/-! ### data cells: nil lists as empty lists -/
def nrmC : List CT → List SV → Option (List SV)
  | [], [] => some []
  | c :: cs, x :: r => match nrmC cs r with
    | none => none
    | some l => match c, x with
      | .i k, .d (.v (.int k' n)) => bif kEq k k' then some (.d (.v (.int k n)) :: l) else none
      | .b, .d (.v (.bool n)) => some (.d (.v (.bool n)) :: l)
      | .s k, .d (.ints k' n) => bif kEq k k' then some (.d (.ints k n) :: l) else none
      | .s k, .d (.v (.slice none 0 0)) => some (.d (.ints k []) :: l)
      | .s k, .d (.v (.slice (some _) 0 _)) => some (.d (.ints k []) :: l)
      | _, _ => none
  | _, _ => none

/-! ### what they say -/
/-- Two contexts where locs mean the same under other names. -/
structure Rn (f : Nat → Nat) (cx cx' : Cx) : Prop where
  fz : ∀ b, cx.fz b → cx'.fz b
  loc : ∀ i, i < cx.n → f i < cx'.n ∧ cx'.th (f i) = cx.th i ∧ cx'.ln (f i) = cx.ln i ∧ cx'.cp (f i) = cx.cp i ∧ cx'.nl (f i) = cx.nl i ∧ cx'.rs (f i) = cx.rs i

section
variable {f : Nat → Nat} {cx cx' : Cx} {w : World}
end

section
variable {cx : Cx} {h : SH} {w : World} {ls : List Nat}

theorem nrmC_ok {cx' : Cx} (hf : cx'.fz = cx.fz) : ∀ {cts : List CT} {c c' : List SV} {vs : List Value}, nrmC cts c = some c' → SRepL cx w c vs → SRepL cx' w c' vs
  | [], [], c', vs, e, hr => by
    simp only [nrmC, Option.some.injEq] at e; subst e
    match vs, hr with
    | [], _ => simp only [SRepL]
    | _ :: _, hr => simp [SRepL] at hr
  | [], _ :: _, c', vs, e, _ => by simp [nrmC] at e
  | _ :: _, [], c', vs, e, _ => by simp [nrmC] at e
  | t :: ts, x :: r, c', vs, e, hr => by
    match vs, hr with
    | [], hr => simp [SRepL] at hr
    | v :: vs, hr =>
      simp only [SRepL] at hr
      simp only [nrmC] at e
      split at e
      · cases e
      · rename_i l hl
        have ih := nrmC_ok hf hl hr.2
        split at e
        · obtain ⟨h1, e⟩ := cond_some e
          simp only [Option.some.injEq] at e; subst e
          have := kEq_eq h1; subst this
          have h0 := hr.1
          simp only [SRepL, SRep, hf] at h0 ⊢
          exact ⟨h0, ih⟩
        · simp only [Option.some.injEq] at e; subst e
          have h0 := hr.1
          simp only [SRepL, SRep, hf] at h0 ⊢
          exact ⟨h0, ih⟩
        · obtain ⟨h1, e⟩ := cond_some e
          simp only [Option.some.injEq] at e; subst e
          have := kEq_eq h1; subst this
          have h0 := hr.1
          simp only [SRepL, SRep, hf] at h0 ⊢
          exact ⟨h0, ih⟩
        · simp only [Option.some.injEq] at e; subst e
          have h0 := hr.1
          simp only [SRepL, SRep, DRep] at h0 ⊢
          exact ⟨⟨none, 0, h0.1, by simp, by simp⟩, ih⟩
        · simp only [Option.some.injEq] at e; subst e
          have h0 := hr.1
          simp only [SRepL, SRep, DRep] at h0 ⊢
          exact ⟨⟨_, _, h0.1, by simp, by simp⟩, ih⟩
        · cases e

end

/-! ### results that say less -/
 mutual
/-- What x says, y says too, or less. -/
def LeV : SV → SV → Prop
  | .agg c, .agg c' => LeVL c c'
  | .tup c, .tup c' => LeVL c c'
  | .d (.v (.slice none 0 0)), .d (.ints _ []) => True
  | x, y => x = y
def LeVL : List SV → List SV → Prop
  | [], [] => True
  | x :: r, y :: s => LeV x y ∧ LeVL r s
  | _, _ => False
end

 mutual
theorem LeV.refl : ∀ x : SV, LeV x x
  | .agg c => by simp only [LeV]; exact LeVL.refl c
  | .tup c => by simp only [LeV]; exact LeVL.refl c
  | .d x => by
    unfold LeV
    split
    · rename_i e; cases e
    · rename_i e; cases e
    · trivial
    · rfl
  | .ptr l o => by simp only [LeV]
  | .pe l i o => by simp only [LeV]
  | .rp sz g o => by simp only [LeV]
  | .own l => by simp only [LeV]
  | .cs l o sz n c => by simp only [LeV]
  | .mp l => by simp only [LeV]
  | .md ks c => by simp only [LeV]
  | .rc c o => by simp only [LeV]
  | .fn g a b => by simp only [LeV]
  | .top => by simp only [LeV]
theorem LeVL.refl : ∀ c : List SV, LeVL c c
  | [] => trivial
  | x :: r => ⟨LeV.refl x, LeVL.refl r⟩
end

section
variable {cx : Cx} {w : World}
 mutual
theorem LeV.rep : ∀ (x y : SV) (u : Value), LeV x y → SRep cx w x u → SRep cx w y u
  | .agg c, y, u, e, h => by
    cases y with
    | agg c' =>
      simp only [LeV] at e
      simp only [SRep] at h ⊢
      obtain ⟨p, e1, h1⟩ := h
      exact ⟨p, e1, LeVL.rep c c' p e h1⟩
    | _ => simp [LeV] at e
  | .tup c, y, u, e, h => by
    cases y with
    | tup c' =>
      simp only [LeV] at e
      simp only [SRep] at h ⊢
      obtain ⟨p, e1, h1⟩ := h
      exact ⟨p, e1, LeVL.rep c c' p e h1⟩
    | _ => simp [LeV] at e
  | .d x, y, u, e, h => by
    unfold LeV at e
    split at e
    · rename_i e1; cases e1
    · rename_i e1; cases e1
    · rename_i e1
      cases e1
      simp only [SRep, DRep] at h ⊢
      exact ⟨none, 0, h.1, by simp, by simp⟩
    · rw [← e]; exact h
  | .ptr l o, y, u, e, h => by simp only [LeV] at e; rw [← e]; exact h
  | .pe l i o, y, u, e, h => by simp only [LeV] at e; rw [← e]; exact h
  | .rp sz g o, y, u, e, h => by simp only [LeV] at e; rw [← e]; exact h
  | .own l, y, u, e, h => by simp only [LeV] at e; rw [← e]; exact h
  | .cs l o sz n c, y, u, e, h => by simp only [LeV] at e; rw [← e]; exact h
  | .mp l, y, u, e, h => by simp only [LeV] at e; rw [← e]; exact h
  | .md ks c, y, u, e, h => by simp only [LeV] at e; rw [← e]; exact h
  | .rc c o, y, u, e, h => by simp only [LeV] at e; rw [← e]; exact h
  | .fn g a b, y, u, e, h => by simp only [LeV] at e; rw [← e]; exact h
  | .top, y, u, e, h => by simp only [LeV] at e; rw [← e]; exact h
theorem LeVL.rep : ∀ (c c' : List SV) (u : List Value), LeVL c c' → SRepL cx w c u → SRepL cx w c' u
  | [], [], u, _, h => h
  | x :: r, y :: s, u, e, h => by
    match u, h with
    | v :: vs, h =>
      simp only [SRepL, LeVL] at h e ⊢
      exact ⟨LeV.rep x y v e.1 h.1, LeVL.rep r s vs e.2 h.2⟩
    | [], h => simp [SRepL] at h
  | [], _ :: _, _, e, _ => by simp [LeVL] at e
  | _ :: _, [], _, e, _ => by simp [LeVL] at e
end
end

end Go.Sx
