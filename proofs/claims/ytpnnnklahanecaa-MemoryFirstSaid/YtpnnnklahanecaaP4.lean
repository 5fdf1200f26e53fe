/- Contract: the layout's list. -/
import Derived.Test.YtpnnnklahanecaaP3
namespace Go.Sx.Pr
open Go Go.Sx Go.Proofs
set_option maxRecDepth 100000

abbrev dI (x : Int) : DV := .v (.int .i64 x)
def ap (l : List DV) : Nat → Nat → DV := fun i j => lkD l (i * 3 + j)
abbrev AL (m : Nat) (q : Nat → Nat → DV) (a b c d e f g l : Int) : SH := [CFG a b c d e f g l, .dead, .dead, .row 105 3 m q]
abbrev T20 (t : Nat) (i : Int) (m : Nat) (q : Nat → Nat → DV) (a b c d e f g l : Int) : SS := ⟨[(1, .ptr 0 0), (3, .own 3), (t, I i)], AL m q a b c d e f g l⟩
def q20 : Nat → Nat → DV := ap [dI 0, dI 0, dI 0, dI 0, dI 1, dI 0, dI 0, dI 2, dI 0]

section
variable {Ω : Type} (it : Itr Ω) (IT : SS → Option Ω) (K : SV → SH → Option Ω) (KK : SE → SS → Option Ω) (a b c d e f g l : Int) (i j : Int) (m : Nat) (q : Nat → Nat → DV)
theorem r20 : sxFnI it E20 A20 C20 [cfgS a b c d e f g l] [] K = it [1, 3, 4] 2 (sxI it E20 A20 L20_13 0) ⟨[(1, .ptr 0 0), (3, .cs 1 0 3 3 3), (4, I 0)], [CFG a b c d e f g l, .cells 105 [I 0, I 0, I 0, I 0, I 1, I 0, I 0, I 2, I 0]]⟩ (Z20_13 it K) := by kernel_rfl
theorem r20_0 : sxI it E20 A20 L20_13 0 ⟨[(1, .ptr 0 0), (3, .cs 1 0 3 3 3), (4, I 0)], [CFG a b c d e f g l, .cells 105 [I 0, I 0, I 0, I 0, I 1, I 0, I 0, I 2, I 0]]⟩ (kitV [1, 3, 4] 2 IT (Z20_13 it K)) =
    br (decide (0 < a)) (IT (T20 4 1 4 (catF 3 q20 (ap [dI 1, dI 0, dI 0])) a b c d e f g l)) (it [1, 3, 5] 2 (sxI it E20 A20 L20_11 2) ⟨[(1, .ptr 0 0), (3, .cs 1 0 3 3 3), (5, I 0)], [CFG a b c d e f g l, .cells 105 [I 0, I 0, I 0, I 0, I 1, I 0, I 0, I 2, I 0]]⟩ (Z20_11 it K)) := by kernel_rfl
theorem r20_1 : sxI it E20 A20 L20_13 0 (T20 4 i m q a b c d e f g l) (kitV [1, 3, 4] 2 IT (Z20_13 it K)) =
    br (decide (i < a)) (br (fits (m + 1) 24) (IT (T20 4 (IntKind.wrap .i64 (i + 1)) (m + 1) (catF m q (ap [dI 1, dI i, dI 0])) a b c d e f g l)) none) (it [1, 3, 5] 4 (sxI it E20 A20 L20_11 2) (T20 5 0 m q a b c d e f g l) (Z20_11 it K)) := by kernel_rfl
theorem r20_2 : sxI it E20 A20 L20_11 2 (T20 5 i m q a b c d e f g l) (kitV [1, 3, 5] 4 IT (Z20_11 it K)) =
    br (decide (i < b)) (br (fits (m + 1) 24) (IT (T20 5 (IntKind.wrap .i64 (i + 1)) (m + 1) (catF m q (ap [dI 2, dI i, dI 0])) a b c d e f g l)) none) (it [1, 3, 6] 4 (sxI it E20 A20 L20_9 4) (T20 6 0 m q a b c d e f g l) (Z20_9 it K)) := by kernel_rfl
theorem r20_3 : sxI it E20 A20 L20_9 4 (T20 6 i m q a b c d e f g l) (kitV [1, 3, 6] 4 IT (Z20_9 it K)) =
    br (decide (i < e)) (br (fits (m + 2) 24) (IT (T20 6 (IntKind.wrap .i64 (i + 1)) (m + 2) (catF m q (ap [dI 3, dI i, dI 0, dI 4, dI i, dI 0])) a b c d e f g l)) none) (it [1, 3, 7] 4 (sxI it E20 A20 L20_7 6) (T20 7 0 m q a b c d e f g l) (Z20_7 it K)) := by kernel_rfl
abbrev T20i (i j : Int) (m : Nat) (q : Nat → Nat → DV) (a b c d e f g l : Int) : SS := ⟨[(1, .ptr 0 0), (3, .own 3), (7, I i), (8, I j)], [CFG a b c d e f g l, .dead, .dead, .row 105 3 m q, .cells 105 [I 5, I i, I 0]]⟩
theorem r20_4 : sxI it E20 A20 L20_7 6 (T20 7 i m q a b c d e f g l) KK =
    br (decide (i < IntKind.wrap .i64 (b * c))) (br (fits (m + 1) 24) (it [1, 3, 7, 8] 5 (sxI it E20 A20 L20_3 8) (T20i i 0 (m + 1) (catF m q (ap [dI 5, dI i, dI 0])) a b c d e f g l) (Z20_3 it KK)) none) (KK (.exit 6) (T20 7 i m q a b c d e f g l)) := by kernel_rfl
theorem r20_5 : sxI it E20 A20 L20_3 8 (T20i i j m q a b c d e f g l) (kitV [1, 3, 7, 8] 5 IT (Z20_3 it KK)) =
    br (decide (j < d)) (br (fits (m + 1) 24) (IT (T20i i (IntKind.wrap .i64 (j + 1)) (m + 1) (catF m q (ap [dI 6, dI i, dI j])) a b c d e f g l)) none)
      (KK .norm ⟨[(1, .ptr 0 0), (3, .own 3), (7, I (IntKind.wrap .i64 (i + 1))), (8, I j)], [CFG a b c d e f g l, .dead, .dead, .row 105 3 m q, .cells 105 [I 5, I i, I 0]]⟩) := by kernel_rfl
theorem r20_6 (i' : Int) : gc [1, 3, 7] 4 ⟨[(1, .ptr 0 0), (3, .own 3), (7, I i), (8, I j)], [CFG a b c d e f g l, .dead, .dead, .row 105 3 m q, .cells 105 [I 5, I i', I 0]]⟩ = T20 7 i m q a b c d e f g l := by kernel_rfl
theorem r20_7 : Z20_7 it K (.exit 6) (T20 7 i m q a b c d e f g l) = K (.own 3) (AL m q a b c d e f g l) := by kernel_rfl
end

def d1 (i : Nat) : List DV := [dI 1, dI i, dI 0]
def d2 (i : Nat) : List DV := [dI 2, dI i, dI 0]
def d3 (i : Nat) : List DV := [dI 3, dI i, dI 0, dI 4, dI i, dI 0]
def d6 (t : Int) (j : Nat) : List DV := [dI 6, dI t, dI j]
/-- The blocks: slot 5 and its words, i of them. -/
def blkA (D : Nat) (q : Nat → Nat → DV) (m : Nat) : Nat → Nat → Nat → DV
  | 0 => q
  | i + 1 => acc 3 (catF (m + (1 + D) * i) (blkA D q m i) (ap [dI 5, dI i, dI 0])) (m + (1 + D) * i + 1) 1 (d6 i) D

section
variable {Ω : Type} (K : SV → SH → Option Ω) (KK : SE → SS → Option Ω) (a b c d e f g l : Int) (q : Nat → Nat → DV)

theorem st1 (A : Nat) (hA : A ≤ 1000) (h1 : 1 ≤ A) : sxFnI itB E20 A20 C20 [cfgS A b c d e f g l] [] K =
    itB [1, 3, 5] 4 (sxI itB E20 A20 L20_11 2) (T20 5 0 (3 + 1 * A) (acc 3 q20 3 1 d1 A) A b c d e f g l) (Z20_11 itB K) := by
  have h0 : ∀ i, i < A - 1 → ∀ I : SS → Option Ω, sxI itB E20 A20 L20_13 0 (T20 4 ((i + 1 : Nat) : Int) (3 + 1 * (i + 1)) (acc 3 q20 3 1 d1 (i + 1)) A b c d e f g l) (kitV [1, 3, 4] 2 I (Z20_13 itB K)) =
      I (T20 4 ((i + 1 + 1 : Nat) : Int) (3 + 1 * (i + 1 + 1)) (acc 3 q20 3 1 d1 (i + 1 + 1)) A b c d e f g l) := fun i hi I => by
    rw [r20_1, decide_eq_true (by omega), fits_of (by omega), w64 (by omega) (by omega)]; rfl
  obtain ⟨N, hN, h2⟩ := itB_first (f := sxI itB E20 A20 L20_13 0) (lv := [1, 3, 4]) (n0 := 2) (k := Z20_13 itB K) (s := ⟨[(1, .ptr 0 0), (3, .cs 1 0 3 3 3), (4, I 0)], [CFG A b c d e f g l, .cells 105 [I 0, I 0, I 0, I 0, I 1, I 0, I 0, I 2, I 0]]⟩)
  obtain ⟨n, hn⟩ := loop_n (f := sxI itB E20 A20 L20_13 0) (lv := [1, 3, 4]) (n0 := 2) (k := Z20_13 itB K) (fun i => T20 4 ((i + 1 : Nat) : Int) (3 + 1 * (i + 1)) (acc 3 q20 3 1 d1 (i + 1)) A b c d e f g l) N (A - 1) (by omega) h0
  rw [r20, h2, r20_0, decide_eq_true (by omega)]
  simp only [br, cond_true]
  refine Eq.trans hn ?_
  rw [show A - 1 + 1 = A by omega, r20_1, decide_eq_false (by omega)]
  simp only [br, cond_false]

theorem st2 (Bn m : Nat) (hB : Bn ≤ 1000) (hm : m ≤ 1000000) : itB [1, 3, 5] 4 (sxI itB E20 A20 L20_11 2) (T20 5 0 m q a Bn c d e f g l) (Z20_11 itB K) =
    itB [1, 3, 6] 4 (sxI itB E20 A20 L20_9 4) (T20 6 0 (m + 1 * Bn) (acc 3 q m 1 d2 Bn) a Bn c d e f g l) (Z20_9 itB K) := by
  obtain ⟨n, hn⟩ := loop_n (f := sxI itB E20 A20 L20_11 2) (lv := [1, 3, 5]) (n0 := 4) (k := Z20_11 itB K) (fun i => T20 5 (i : Int) (m + 1 * i) (acc 3 q m 1 d2 i) a Bn c d e f g l) big Bn (by unfold big; omega) (fun i hi I => by
    rw [r20_2, decide_eq_true (by omega), fits_of (by omega), w64 (by omega) (by omega)]; rfl)
  rw [itB_def]
  refine Eq.trans hn ?_
  rw [r20_2, decide_eq_false (by omega)]
  simp only [br, cond_false]

theorem st3 (En m : Nat) (hB : En ≤ 1000) (hm : m ≤ 1000000) : itB [1, 3, 6] 4 (sxI itB E20 A20 L20_9 4) (T20 6 0 m q a b c d En f g l) (Z20_9 itB K) =
    itB [1, 3, 7] 4 (sxI itB E20 A20 L20_7 6) (T20 7 0 (m + 2 * En) (acc 3 q m 2 d3 En) a b c d En f g l) (Z20_7 itB K) := by
  obtain ⟨n, hn⟩ := loop_n (f := sxI itB E20 A20 L20_9 4) (lv := [1, 3, 6]) (n0 := 4) (k := Z20_9 itB K) (fun i => T20 6 (i : Int) (m + 2 * i) (acc 3 q m 2 d3 i) a b c d En f g l) big En (by unfold big; omega) (fun i hi I => by
    rw [r20_3, decide_eq_true (by omega), fits_of (by omega), w64 (by omega) (by omega)]; rfl)
  rw [itB_def]
  refine Eq.trans hn ?_
  rw [r20_3, decide_eq_false (by omega)]
  simp only [br, cond_false]

theorem st5 (t Dn m : Nat) (ht : t ≤ 1000) (hB : Dn ≤ 1000) (hm : m ≤ 1000000) : itB [1, 3, 7, 8] 5 (sxI itB E20 A20 L20_3 8) (T20i t 0 m q a b c Dn e f g l) (Z20_3 itB KK) =
    KK .norm ⟨[(1, .ptr 0 0), (3, .own 3), (7, I ((t + 1 : Nat) : Int)), (8, I Dn)], [CFG a b c Dn e f g l, .dead, .dead, .row 105 3 (m + 1 * Dn) (acc 3 q m 1 (d6 t) Dn), .cells 105 [I 5, I t, I 0]]⟩ := by
  obtain ⟨n, hn⟩ := loop_n (f := sxI itB E20 A20 L20_3 8) (lv := [1, 3, 7, 8]) (n0 := 5) (k := Z20_3 itB KK) (fun i => T20i t (i : Int) (m + 1 * i) (acc 3 q m 1 (d6 t) i) a b c Dn e f g l) big Dn (by unfold big; omega) (fun i hi I => by
    rw [r20_5, decide_eq_true (by omega), fits_of (by omega), w64 (by omega) (by omega)]; rfl)
  rw [itB_def]
  refine Eq.trans hn ?_
  rw [r20_5, decide_eq_false (by omega)]
  simp only [br, cond_false]
  rw [w64 (by omega) (by omega)]
  rfl

theorem st4 (Bn Cn Dn m : Nat) (hB : Bn * Cn ≤ 1000) (hD : Dn ≤ 100) (hm : m ≤ 10000) : itB [1, 3, 7] 4 (sxI itB E20 A20 L20_7 6) (T20 7 0 m q a Bn Cn Dn e f g l) (Z20_7 itB K) =
    K (.own 3) (AL (m + (1 + Dn) * (Bn * Cn)) (blkA Dn q m (Bn * Cn)) a Bn Cn Dn e f g l) := by
  have hw : IntKind.wrap .i64 ((Bn : Int) * Cn) = ((Bn * Cn : Nat) : Int) := by
    rw [← Int.natCast_mul, w64] <;> omega
  obtain ⟨n, hn⟩ := loop_n (f := sxI itB E20 A20 L20_7 6) (lv := [1, 3, 7]) (n0 := 4) (k := Z20_7 itB K) (fun i => T20 7 (i : Int) (m + (1 + Dn) * i) (blkA Dn q m i) a Bn Cn Dn e f g l) big (Bn * Cn) (by unfold big; omega) (fun i hi I => by
    have hmul : (1 + Dn) * i ≤ 101 * 1000 := Nat.mul_le_mul (by omega) (by omega)
    rw [r20_4, hw, decide_eq_true (by omega), fits_of (by omega)]
    simp only [br, cond_true]
    rw [st5 _ _ _ _ _ _ _ _ _ _ _ _ (by omega) (by omega) (by omega)]
    simp only [kitV]
    rw [r20_6]
    have e : m + (1 + Dn) * i + 1 + 1 * Dn = m + (1 + Dn) * (i + 1) := by rw [Nat.mul_succ]; omega
    rw [e]
    rfl)
  rw [itB_def]
  refine Eq.trans hn ?_
  rw [r20_4, hw, decide_eq_false (by omega)]
  simp only [br, cond_false, kitV]
  rw [r20_7]
end

/-- How many words there are. -/
def sizeN (A Bn Cn D E : Nat) : Nat := 3 + 1 * A + 1 * Bn + 2 * E + (1 + D) * (Bn * Cn)
def qAll (A Bn Cn D E : Nat) : Nat → Nat → DV := blkA D (acc 3 (acc 3 (acc 3 q20 3 1 d1 A) (3 + 1 * A) 1 d2 Bn) (3 + 1 * A + 1 * Bn) 2 d3 E) (3 + 1 * A + 1 * Bn + 2 * E) (Bn * Cn)

theorem v20 {Ω : Type} (K : SV → SH → Option Ω) {a b c d e f g l : Int} (h : chk a b c d e f g l = 0) : sxFn E20 A20 C20 [cfgS a b c d e f g l] [] K =
    K (.own 3) (AL (sizeN a.toNat b.toNat c.toNat d.toNat e.toNat) (qAll a.toNat b.toNat c.toNat d.toNat e.toNat) a b c d e f g l) := by
  obtain ⟨⟨a1, a2⟩, ⟨b1, b2⟩, ⟨c1, c2⟩, ⟨g1, g2⟩, ⟨e1, e2⟩, _⟩ := chk_zero h
  obtain ⟨A, rfl⟩ := Int.eq_ofNat_of_zero_le (show 0 ≤ a by omega)
  obtain ⟨Bn, rfl⟩ := Int.eq_ofNat_of_zero_le (show 0 ≤ b by omega)
  obtain ⟨Cn, rfl⟩ := Int.eq_ofNat_of_zero_le (show 0 ≤ c by omega)
  obtain ⟨Dn, rfl⟩ := Int.eq_ofNat_of_zero_le (show 0 ≤ d by omega)
  obtain ⟨En, rfl⟩ := Int.eq_ofNat_of_zero_le (show 0 ≤ e by omega)
  have hBC : Bn * Cn ≤ 8 * 16 := Nat.mul_le_mul (by omega) (by omega)
  rw [← sxFnI_eq, st1 _ _ _ _ _ _ _ _ A (by omega) (by omega), st2 _ _ _ _ _ _ _ _ _ _ _ (by omega) (by omega), st3 _ _ _ _ _ _ _ _ _ _ _ (by omega) (by omega), st4 _ _ _ _ _ _ _ _ _ _ _ (by omega) (by omega) (by omega)]
  rfl

def FAll : List (List Int) → Option (Bool × SV × SH)
  | [[a, b, c, d, e, f, g, l]] => some (chk a b c d e f g l == 0, .own 3, [.dead, .dead, .dead, .row 105 3 (sizeN a.toNat b.toNat c.toNat d.toNat e.toNat) (qAll a.toNat b.toNat c.toNat d.toNat e.toNat)])
  | _ => none

theorem lkD_flat {l : List DV} (h : ∀ x ∈ l, ∃ v, x = .v v) (j : Nat) : ∃ v, lkD l j = .v v := by
  unfold lkD
  rw [List.getD_eq_getElem?_getD]
  cases e : l[j]? with
  | none => exact ⟨_, rfl⟩
  | some x => exact h x (List.mem_of_getElem? e)

theorem blkA_flat {D : Nat} {q : Nat → Nat → DV} {m : Nat} (hq : ∀ i j, ∃ v, q i j = .v v) : ∀ (n i j : Nat), ∃ v, blkA D q m n i j = .v v
  | 0, i, j => hq i j
  | n + 1, i, j => by
    simp only [blkA]
    refine acc_flat (fun i j => ?_) (fun i j => lkD_flat (by simp [d6]) j) D i j
    simp only [catF]
    cases Nat.blt i (m + (1 + D) * n) with
    | true => exact blkA_flat hq n i j
    | false => exact lkD_flat (by simp) _

theorem qAll_flat {A Bn Cn D E : Nat} (i j : Nat) : ∃ v, qAll A Bn Cn D E i j = .v v := by
  unfold qAll
  refine blkA_flat (fun i j => acc_flat (fun i j => acc_flat (fun i j => acc_flat (fun i j => ?_) (fun i j => lkD_flat (by simp [d1]) j) _ i j) (fun i j => lkD_flat (by simp [d2]) j) _ i j) (fun i j => lkD_flat (by simp [d3]) j) _ i j) _ i j
  exact lkD_flat (by simp) _

def S20 {Ω : Type} : Spec Ω := conSpec [.g cfgK] FAll
theorem g20 : Good1 Try.prog 20 S20 := conGood Try.func20 (by kernel_rfl) c20 e20 mix (A := A20) fun l r hr hl hF => by
  obtain ⟨x, rfl, hx⟩ := lenAs_one hl
  obtain ⟨a, b, c, d, e, f, g, i, rfl⟩ := eight hx
  simp only [FAll, Option.some.injEq, Prod.mk.injEq] at hF
  obtain ⟨h0, rfl, rfl⟩ := hF
  exact ⟨trivial, ⟨trivial, trivial, trivial, qAll_flat, trivial⟩, _, by kernel_rfl, v20 _ (by simpa using h0)⟩
end Go.Sx.Pr
