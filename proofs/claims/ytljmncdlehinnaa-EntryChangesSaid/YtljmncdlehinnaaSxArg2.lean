/- Contract: the document's address of a word. -/
import Derived.Test.YtljmncdlehinnaaN1
import Derived.Test.YtljmncdlehinnaaRows
import Derived.KernelRfl
import Derived.Test.YtljmncdlehinnaaN1
import Derived.Test.YtljmncdlehinnaaN1
set_option linter.all false
set_option linter.unusedVariables false
set_option linter.unusedSimpArgs false
set_option linter.unnecessarySimpa false
namespace Go.Sx.Pr
open Go Go.Sx Go.Proofs
set_option maxRecDepth 100000

abbrev S82s (n : Nat) (sp : Nat → Nat → Int) (i k x y : Int) (a b c d e f g l : Int) : SS := ⟨[(3, .ptr 1 0), (5, .own 5), (6, I i)], [CFG a b c d e f g l, .cells 113 [I k, I x, I y], .dead, .dead, .dead, .row 113 3 n (fun i j => .v (.int .i64 (sp i j)))]⟩
theorem t82 {Ω : Type} (it : Itr Ω) (K : SV → SH → Option Ω) (a b c d e f g l k x y : Int) :
    sxFnI it E82 A82 C82 [cfgS a b c d e f g l, .agg [I k, I x, I y]] [] K =
    br (!chk a b c d e f g l == 0) (K (I (-1)) [.cells 26 [I a, I b, I c, I d, I e, I f, I g, U l], .cells 113 [I k, I x, I y]]) (br (chk a b c d e f g l == 0) (it [3, 5, 6] 6 (sxI it E82 A82 L82_2 0) (SS.mk [(3, .ptr 1 0), (5, .own 5), (6, I 0)] [.cells 26 [I a, I b, I c, I d, I e, I f, I g, U l], .cells 113 [I k, I x, I y], .dead, .dead, .dead, .row 113 3 (sizeN (Int.toNat a) (Int.toNat b) (Int.toNat c) (Int.toNat d) (Int.toNat e)) fun i j => DV.v (Value.int .i64 (spot (Int.toNat a) (Int.toNat b) (Int.toNat d) (Int.toNat e) i j))]) (Z82_2 it K)) none) := by kernel_rfl
theorem t82_1 {Ω : Type} (it : Itr Ω) (IT : SS → Option Ω) (K : SV → SH → Option Ω) (n : Nat) (sp : Nat → Nat → Int) (i k x y : Int) (a b c d e f g l : Int) :
    sxI it E82 A82 L82_2 0 (S82s n sp i k x y a b c d e f g l) (kitV [3, 5, 6] 6 IT (Z82_2 it K)) =
    br (decide (i < (↑n : Int))) (br (inB i n) (br (sp (Int.toNat i) 0 == k && (sp (Int.toNat i) 1 == x && (sp (Int.toNat i) 2 == y && true))) (K (I i) [.cells 26 [I a, I b, I c, I d, I e, I f, I g, U l], .cells 113 [I k, I x, I y], .dead, .dead, .dead, .row 113 3 n fun i j => DV.v (Value.int .i64 (sp i j))]) (IT (SS.mk [(3, .ptr 1 0), (5, .own 5), (6, I (IntKind.wrap .i64 (i + 1)))] [.cells 26 [I a, I b, I c, I d, I e, I f, I g, U l], .cells 113 [I k, I x, I y], .dead, .dead, .dead, .row 113 3 n fun i j => DV.v (Value.int .i64 (sp i j))]))) none) (K (I (-1)) [.cells 26 [I a, I b, I c, I d, I e, I f, I g, U l], .cells 113 [I k, I x, I y], .dead, .dead, .dead, .row 113 3 n fun i j => DV.v (Value.int .i64 (sp i j))]) := by kernel_rfl

/-- Where a place first stands among m from i on. -/
def srch (sp : Nat → Nat → Int) (k x y : Int) : Nat → Nat → Int
  | 0, _ => -1
  | m + 1, i => bif (sp i 0 == k) && ((sp i 1 == x) && (sp i 2 == y)) then (i : Int) else srch sp k x y m (i + 1)

/-- The address of a word. -/
def atV (a b c d e f g l k x y : Int) : Int :=
  bif chk a b c d e f g l == 0 then srch (spot a.toNat b.toNat d.toNat e.toNat) k x y (sizeN a.toNat b.toNat c.toNat d.toNat e.toNat) 0 else -1

theorem loop82 {n : Nat} {sp : Nat → Nat → Int} {k x y a b c d e f g l : Int} (hn : n ≤ 1000) : ∀ (m i N : Nat), n - i = m → i ≤ n → m < N →
    ∃ H, iter [3, 5, 6] 6 (sxI itB E82 A82 L82_2 0) N (S82s n sp i k x y a b c d e f g l) (Z82_2 itB KS) = some (I (srch sp k x y m i), H)
  | m, i, 0, _, _, h => by omega
  | m, i, N + 1, hm, hi, hN => by
    rw [iter_succ, t82_1]
    by_cases h : i < n
    · obtain ⟨m', rfl⟩ : ∃ m', m = m' + 1 := ⟨m - 1, by omega⟩
      have h1 : decide ((i : Int) < (n : Int)) = true := by simp; omega
      have h2 : inB (i : Int) n = true := by simp [inB]; omega
      rw [h1, br_t, h2, br_t, w64 (by omega) (by omega), Int.toNat_natCast]
      simp only [srch, Bool.and_true]
      cases h3 : ((sp i 0 == k) && ((sp i 1 == x) && (sp i 2 == y))) with
      | true => rw [br_t]; exact ⟨_, rfl⟩
      | false =>
        rw [br_f, cond_false]
        exact loop82 hn m' (i + 1) N (by omega) (by omega) (by omega)
    · have h1 : decide ((i : Int) < (n : Int)) = false := by simp; omega
      have : m = 0 := by omega
      subst this
      rw [h1, br_f]
      exact ⟨_, rfl⟩

theorem size_le {a b c d e f g l : Int} (h : chk a b c d e f g l = 0) : sizeN a.toNat b.toNat c.toNat d.toNat e.toNat ≤ 1000 := by
  obtain ⟨⟨a1, a2⟩, ⟨b1, b2⟩, ⟨c1, c2⟩, ⟨g1, g2⟩, ⟨e1, e2⟩, _⟩ := chk_zero h
  have hBC : b.toNat * c.toNat ≤ 8 * 16 := Nat.mul_le_mul (by omega) (by omega)
  have hP : (1 + d.toNat) * (b.toNat * c.toNat) ≤ 5 * 128 := Nat.mul_le_mul (by omega) (by omega)
  unfold sizeN; omega

theorem v82 (a b c d e f g l k x y : Int) : ∃ H, sxFn E82 A82 C82 [cfgS a b c d e f g l, .agg [I k, I x, I y]] [] KS = some (I (atV a b c d e f g l k x y), H) := by
  rw [← sxFnI_eq, t82]
  unfold atV
  by_cases h : chk a b c d e f g l = 0
  · have hc' : (chk a b c d e f g l == 0) = true := by simp [h]
    rw [hc', Bool.not_true, br_f, br_t, cond_true, itB_def]
    have hs := size_le h
    exact loop82 hs _ 0 big (by omega) (by omega) (by unfold big; omega)
  · have hc' : (chk a b c d e f g l == 0) = false := by simp [h]
    rw [hc', Bool.not_false, br_t, cond_false]
    exact ⟨_, rfl⟩

def FAt : List (List Int) → Option (Bool × SV × SH)
  | [[a, b, c, d, e, f, g, l], [k, x, y]] => some (true, I (atV a b c d e f g l k x y), [])
  | _ => none
theorem three {α : Type} {l : List α} (h : l.length = 3) : ∃ a b c, l = [a, b, c] := by
  match l, h with
  | [a, b, c], _ => exact ⟨a, b, c, rfl⟩
def S82 {Ω : Type} : Spec Ω := conSpec [.g cfgK, .g [.i64, .i64, .i64]] FAt
theorem g82 : Good1 Try.prog 87 S82 := conGood Try.func87 (by kernel_rfl) c82 e82 mix (A := A82) fun L r hr hl hF => by
  obtain ⟨p, q, rfl, hp, s, q2, rfl, hs, hq⟩ := hl
  simp only [lenAs] at hq
  subst hq
  obtain ⟨a, b, c, d, e, f, g, i, rfl⟩ := eight hp
  obtain ⟨k, x, y, rfl⟩ := three hs
  simp only [FAt, Option.some.injEq, Prod.mk.injEq, true_and] at hF
  obtain ⟨rfl, rfl⟩ := hF
  obtain ⟨H, hH⟩ := v82 a b c d e f g i k x y
  exact ⟨trivial, trivial, H, trim_none rfl _, hH⟩

/-! ### what the search comes to -/
theorem srch_hit {sp : Nat → Nat → Int} {k x y : Int} {t : Nat} (ht : sp t 0 = k ∧ sp t 1 = x ∧ sp t 2 = y) : ∀ (m i : Nat), i ≤ t → t < i + m → (∀ j, i ≤ j → j < t → ¬ (sp j 0 = k ∧ sp j 1 = x ∧ sp j 2 = y)) → srch sp k x y m i = (t : Int)
  | 0, i, h1, h2, _ => by omega
  | m + 1, i, h1, h2, h3 => by
    simp only [srch]
    rcases Nat.eq_or_lt_of_le h1 with h | h
    · subst h
      have : ((sp i 0 == k) && ((sp i 1 == x) && (sp i 2 == y))) = true := by simp [ht]
      rw [this, cond_true]
    · have hn := h3 i (Nat.le_refl _) h
      have : ((sp i 0 == k) && ((sp i 1 == x) && (sp i 2 == y))) = false := by
        rw [Bool.eq_false_iff]
        intro h4
        simp only [Bool.and_eq_true, beq_iff_eq] at h4
        exact hn h4
      rw [this, cond_false]
      exact srch_hit ht m (i + 1) h (by omega) fun j h5 h6 => h3 j (by omega) h6

theorem srch_miss {sp : Nat → Nat → Int} {k x y : Int} : ∀ (m i : Nat), (∀ j, i ≤ j → j < i + m → ¬ (sp j 0 = k ∧ sp j 1 = x ∧ sp j 2 = y)) → srch sp k x y m i = -1
  | 0, i, _ => rfl
  | m + 1, i, h3 => by
    simp only [srch]
    have hn := h3 i (Nat.le_refl _) (by omega)
    have : ((sp i 0 == k) && ((sp i 1 == x) && (sp i 2 == y))) = false := by
      rw [Bool.eq_false_iff]
      intro h4
      simp only [Bool.and_eq_true, beq_iff_eq] at h4
      exact hn h4
    rw [this, cond_false]
    exact srch_miss m (i + 1) fun j h5 h6 => h3 j (by omega) (by omega)
end Go.Sx.Pr

/- The document's addresses, closed forms. -/
namespace Go.Sx.Pr
open Go Go.Sx Go.Proofs
set_option maxRecDepth 100000

theorem spot_cases (A Bn D E j : Nat) :
    (j < 3 ∧ spot A Bn D E j 0 = 0 ∧ spot A Bn D E j 1 = (j : Int) ∧ spot A Bn D E j 2 = 0) ∨
    (3 ≤ j ∧ j < 3 + A ∧ spot A Bn D E j 0 = 1 ∧ spot A Bn D E j 1 = ((j - 3 : Nat) : Int) ∧ spot A Bn D E j 2 = 0) ∨
    (3 + A ≤ j ∧ j < 3 + A + Bn ∧ spot A Bn D E j 0 = 2 ∧ spot A Bn D E j 1 = ((j - (3 + A) : Nat) : Int) ∧ spot A Bn D E j 2 = 0) ∨
    (3 + A + Bn ≤ j ∧ j < 3 + A + Bn + 2 * E ∧ (j - (3 + A + Bn)) % 2 = 0 ∧ spot A Bn D E j 0 = 3 ∧ spot A Bn D E j 1 = (((j - (3 + A + Bn)) / 2 : Nat) : Int) ∧ spot A Bn D E j 2 = 0) ∨
    (3 + A + Bn ≤ j ∧ j < 3 + A + Bn + 2 * E ∧ (j - (3 + A + Bn)) % 2 = 1 ∧ spot A Bn D E j 0 = 4 ∧ spot A Bn D E j 1 = (((j - (3 + A + Bn)) / 2 : Nat) : Int) ∧ spot A Bn D E j 2 = 0) ∨
    (3 + A + Bn + 2 * E ≤ j ∧ (j - (3 + A + Bn + 2 * E)) % (1 + D) = 0 ∧ spot A Bn D E j 0 = 5 ∧ spot A Bn D E j 1 = (((j - (3 + A + Bn + 2 * E)) / (1 + D) : Nat) : Int) ∧ spot A Bn D E j 2 = 0) ∨
    (3 + A + Bn + 2 * E ≤ j ∧ (j - (3 + A + Bn + 2 * E)) % (1 + D) ≠ 0 ∧ spot A Bn D E j 0 = 6 ∧ spot A Bn D E j 1 = (((j - (3 + A + Bn + 2 * E)) / (1 + D) : Nat) : Int) ∧ spot A Bn D E j 2 = (((j - (3 + A + Bn + 2 * E)) % (1 + D) - 1 : Nat) : Int)) := by
  unfold spot spotL
  by_cases h1 : j < 3
  · rw [if_pos h1]; exact .inl ⟨h1, rfl, rfl, rfl⟩
  · rw [if_neg h1]
    by_cases h2 : j < 3 + A
    · rw [if_pos h2]; exact .inr (.inl ⟨by omega, h2, rfl, rfl, rfl⟩)
    · rw [if_neg h2]
      by_cases h3 : j < 3 + A + Bn
      · rw [if_pos h3]; exact .inr (.inr (.inl ⟨by omega, h3, rfl, rfl, rfl⟩))
      · rw [if_neg h3]
        by_cases h4 : j < 3 + A + Bn + 2 * E
        · rw [if_pos h4]
          rcases Nat.mod_two_eq_zero_or_one (j - (3 + A + Bn)) with h5 | h5
          · rw [h5, if_pos rfl]; exact .inr (.inr (.inr (.inl ⟨by omega, h4, rfl, rfl, rfl, rfl⟩)))
          · rw [h5, if_neg (by omega)]; exact .inr (.inr (.inr (.inr (.inl ⟨by omega, h4, rfl, rfl, rfl, rfl⟩))))
        · rw [if_neg h4]
          by_cases h5 : (j - (3 + A + Bn + 2 * E)) % (1 + D) = 0
          · rw [if_pos h5]; exact .inr (.inr (.inr (.inr (.inr (.inl ⟨by omega, h5, rfl, rfl, rfl⟩)))))
          · rw [if_neg h5]; exact .inr (.inr (.inr (.inr (.inr (.inr ⟨by omega, h5, rfl, rfl, rfl⟩)))))

/-- One place, one address. -/
theorem spot_inj {A Bn D E j t : Nat} (h0 : spot A Bn D E j 0 = spot A Bn D E t 0) (h1 : spot A Bn D E j 1 = spot A Bn D E t 1) (h2 : spot A Bn D E j 2 = spot A Bn D E t 2) : j = t := by
  rcases spot_cases A Bn D E j with ⟨a1, a2, a3, a4⟩ | ⟨a0, a1, a2, a3, a4⟩ | ⟨a0, a1, a2, a3, a4⟩ | ⟨a0, a1, a5, a2, a3, a4⟩ | ⟨a0, a1, a5, a2, a3, a4⟩ | ⟨a0, a5, a2, a3, a4⟩ | ⟨a0, a5, a2, a3, a4⟩ <;>
  rcases spot_cases A Bn D E t with ⟨b1, b2, b3, b4⟩ | ⟨b0, b1, b2, b3, b4⟩ | ⟨b0, b1, b2, b3, b4⟩ | ⟨b0, b1, b5, b2, b3, b4⟩ | ⟨b0, b1, b5, b2, b3, b4⟩ | ⟨b0, b5, b2, b3, b4⟩ | ⟨b0, b5, b2, b3, b4⟩ <;>
  rw [a2, b2] at h0 <;> (try (exfalso; omega)) <;> rw [a3, b3] at h1 <;> rw [a4, b4] at h2
  · omega
  · omega
  · omega
  · omega
  · omega
  · have e1 := Nat.div_add_mod (j - (3 + A + Bn + 2 * E)) (1 + D)
    have e2 := Nat.div_add_mod (t - (3 + A + Bn + 2 * E)) (1 + D)
    have e3 : (j - (3 + A + Bn + 2 * E)) / (1 + D) = (t - (3 + A + Bn + 2 * E)) / (1 + D) := by omega
    rw [e3, a5] at e1
    rw [b5] at e2
    omega
  · have e1 := Nat.div_add_mod (j - (3 + A + Bn + 2 * E)) (1 + D)
    have e2 := Nat.div_add_mod (t - (3 + A + Bn + 2 * E)) (1 + D)
    have e3 : (j - (3 + A + Bn + 2 * E)) / (1 + D) = (t - (3 + A + Bn + 2 * E)) / (1 + D) := by omega
    have e4 : (j - (3 + A + Bn + 2 * E)) % (1 + D) = (t - (3 + A + Bn + 2 * E)) % (1 + D) := by omega
    rw [e3, e4] at e1
    omega

section
variable {a b c d e f g l : Int} (hc : chk a b c d e f g l = 0)
 include hc

theorem at_hit {k x y : Int} {t : Nat} (ht : t < sizeN a.toNat b.toNat c.toNat d.toNat e.toNat) (h0 : spot a.toNat b.toNat d.toNat e.toNat t 0 = k) (h1 : spot a.toNat b.toNat d.toNat e.toNat t 1 = x) (h2 : spot a.toNat b.toNat d.toNat e.toNat t 2 = y) :
    atV a b c d e f g l k x y = (t : Int) := by
  unfold atV
  rw [show (chk a b c d e f g l == 0) = true by simp [hc], cond_true]
  exact srch_hit ⟨h0, h1, h2⟩ _ 0 (by omega) (by omega) fun j _ hj hs => by
    have := spot_inj (hs.1.trans h0.symm) (hs.2.1.trans h1.symm) (hs.2.2.trans h2.symm)
    omega

theorem at_miss {k x y : Int} (h : ∀ j, j < sizeN a.toNat b.toNat c.toNat d.toNat e.toNat → ¬ (spot a.toNat b.toNat d.toNat e.toNat j 0 = k ∧ spot a.toNat b.toNat d.toNat e.toNat j 1 = x ∧ spot a.toNat b.toNat d.toNat e.toNat j 2 = y)) :
    atV a b c d e f g l k x y = -1 := by
  unfold atV
  rw [show (chk a b c d e f g l == 0) = true by simp [hc], cond_true]
  exact srch_miss _ 0 fun j _ hj => h j (by omega)

/-- The word of entry i, and its link. -/
theorem at3 (i : Int) : atV a b c d e f g l 3 i 0 = if 0 ≤ i ∧ i < e then 3 + a + b + 2 * i else -1 := by
  obtain ⟨⟨a1, a2⟩, ⟨b1, b2⟩, _, _, ⟨e1, e2⟩, _⟩ := chk_zero hc
  split
  · rename_i h
    rw [at_hit hc (t := (3 + a + b + 2 * i).toNat) (by unfold sizeN; omega)]
    · omega
    all_goals rcases spot_cases a.toNat b.toNat d.toNat e.toNat (3 + a + b + 2 * i).toNat with h1 | h1 | h1 | h1 | h1 | h1 | h1 <;> omega
  · rename_i h
    refine at_miss hc fun j _ hs => ?_
    rcases spot_cases a.toNat b.toNat d.toNat e.toNat j with h1 | h1 | h1 | h1 | h1 | h1 | h1 <;> omega
theorem at4 (i : Int) : atV a b c d e f g l 4 i 0 = if 0 ≤ i ∧ i < e then 3 + a + b + 2 * i + 1 else -1 := by
  obtain ⟨⟨a1, a2⟩, ⟨b1, b2⟩, _, _, ⟨e1, e2⟩, _⟩ := chk_zero hc
  split
  · rename_i h
    rw [at_hit hc (t := (3 + a + b + 2 * i + 1).toNat) (by unfold sizeN; omega)]
    · omega
    all_goals rcases spot_cases a.toNat b.toNat d.toNat e.toNat (3 + a + b + 2 * i + 1).toNat with h1 | h1 | h1 | h1 | h1 | h1 | h1 <;> omega
  · rename_i h
    refine at_miss hc fun j _ hs => ?_
    rcases spot_cases a.toNat b.toNat d.toNat e.toNat j with h1 | h1 | h1 | h1 | h1 | h1 | h1 <;> omega
end
end Go.Sx.Pr

/- The document's addresses of blocks' links and words, closed forms. -/
namespace Go.Sx.Pr
open Go Go.Sx Go.Proofs
set_option maxRecDepth 100000

section
variable {a b c d e f g l : Int} (hc : chk a b c d e f g l = 0)
 include hc

/-- The link of block i. -/
theorem at5 (i : Int) : atV a b c d e f g l 5 i 0 = if 0 ≤ i ∧ i < b * c then 3 + a + b + 2 * e + (1 + d) * i else -1 := by
  obtain ⟨⟨a1, a2⟩, ⟨b1, b2⟩, ⟨c1, c2⟩, ⟨d1, d2⟩, ⟨e1, e2⟩, _⟩ := chk_zero hc
  obtain ⟨A, rfl⟩ := Int.eq_ofNat_of_zero_le (show 0 ≤ a by omega)
  obtain ⟨Bn, rfl⟩ := Int.eq_ofNat_of_zero_le (show 0 ≤ b by omega)
  obtain ⟨Cn, rfl⟩ := Int.eq_ofNat_of_zero_le (show 0 ≤ c by omega)
  obtain ⟨D, rfl⟩ := Int.eq_ofNat_of_zero_le (show 0 ≤ d by omega)
  obtain ⟨E, rfl⟩ := Int.eq_ofNat_of_zero_le (show 0 ≤ e by omega)
  split
  · rename_i h
    obtain ⟨n, rfl⟩ := Int.eq_ofNat_of_zero_le h.1
    have hn : n < Bn * Cn := by have := h.2; rw [← Int.natCast_mul] at this; omega
    have hmul : (1 + D) * (n + 1) ≤ (1 + D) * (Bn * Cn) := Nat.mul_le_mul_left _ hn
    rw [Nat.mul_succ] at hmul
    have hm : (3 + A + Bn + 2 * E + (1 + D) * n - (3 + A + Bn + 2 * E)) = (1 + D) * n := by omega
    have hd : ((1 + D) * n) / (1 + D) = n := Nat.mul_div_cancel_left _ (by omega)
    have hr : ((1 + D) * n) % (1 + D) = 0 := Nat.mul_mod_right _ _
    have hs := spot_cases A Bn D E (3 + A + Bn + 2 * E + (1 + D) * n)
    rw [hm, hd, hr] at hs
    have key : spot A Bn D E (3 + A + Bn + 2 * E + (1 + D) * n) 0 = 5 ∧ spot A Bn D E (3 + A + Bn + 2 * E + (1 + D) * n) 1 = (n : Int) ∧ spot A Bn D E (3 + A + Bn + 2 * E + (1 + D) * n) 2 = 0 := by
      rcases hs with h1 | h1 | h1 | h1 | h1 | h1 | h1
      · omega
      · omega
      · omega
      · omega
      · omega
      · exact ⟨h1.2.2.1, h1.2.2.2.1, h1.2.2.2.2⟩
      · exact absurd rfl h1.2.1
    rw [at_hit hc (t := 3 + A + Bn + 2 * E + (1 + D) * n) (by simp only [Int.toNat_natCast]; unfold sizeN; omega) key.1 key.2.1 key.2.2]
    push_cast
    rfl
  · rename_i h
    refine at_miss hc fun j hj hs => h ?_
    simp only [Int.toNat_natCast] at hj hs
    unfold sizeN at hj
    rcases spot_cases A Bn D E j with h1 | h1 | h1 | h1 | h1 | h1 | h1
    · omega
    · omega
    · omega
    · omega
    · omega
    · have h2 : (j - (3 + A + Bn + 2 * E)) / (1 + D) < Bn * Cn := Nat.div_lt_of_lt_mul (by omega)
      rw [← Int.natCast_mul]
      generalize (j - (3 + A + Bn + 2 * E)) / (1 + D) = Q at h1 h2
      generalize Bn * Cn = R at *
      omega
    · omega

end
end Go.Sx.Pr

namespace Go.Sx.Pr
open Go Go.Sx Go.Proofs
set_option maxRecDepth 100000
/-- (coatcheck/plan.Plan).BlockLink -/
def C117 : CF := ⟨2, [(4, none)],
 .seq (.reg false [⟨some 2, .box 75 8 (.t 0), none, 0⟩,
   ⟨some 4, .mv (.c (.d (.v (.int .i64 0)))), none, 0⟩])
 (.seq (.reg true [⟨some 5, .ld 8 true (.t 2), none, 0⟩,
   ⟨some 6, .ld 8 true (.t 2), none, 0⟩,
   ⟨some 7, .call (.c (.fn (.func 105) [] [])) [.t 6], none, 2⟩,
   ⟨some 8, .mv (.t 1), none, 0⟩,
   ⟨some 9, .ld 8 true (.t 2), none, 0⟩,
   ⟨some 10, .call (.c (.fn (.func 106) [] [])) [.t 9], none, 22⟩,
   ⟨some 11, .fa 0 (.t 2), none, 0⟩,
   ⟨some 12, .fa 3 (.t 11), none, 64⟩,
   ⟨some 13, .ld 1 false (.t 12), none, 192⟩,
   ⟨some 14, .bin .add (.c (.d (.v (.int .i64 1)))) (.t 13), none, 448⟩,
   ⟨some 15, .call (.c (.fn (.func 89) [] [])) [.t 5, .t 7, .t 8, .t 10, .t 14], none, 1023⟩,
   ⟨some 4, .mv (.t 15), none, 2047⟩])
 (.ret))⟩
theorem c117 : coF Try.prog Try.f100 = some C117 := by kernel_rfl
def A117 : Ann := { keep := [0, 1, 2, 4], live := [] }
def E117 {Ω : Type} : Env Ω := econs 105 S107 (econs 106 S108 (econs 89 S122 (enil)))
theorem e117 : GoodE Try.prog E117 := GoodE.cons g107 (GoodE.cons g108 (GoodE.cons g122 (GoodE.nil)))
end Go.Sx.Pr

/- Contracts: the plan's addresses are the document's. -/
namespace Go.Sx.Pr
open Go Go.Sx Go.Proofs
set_option maxRecDepth 100000

theorem u111 {Ω : Type} (it : Itr Ω) (K : SV → SH → Option Ω) (a b c d e f g l i : Int) :
    sxFnI it E111 A111 C111 [cfgS a b c d e f g l, I i] [] K =
    br (decide (i < 0)) (K (I (-1)) [.cells 75 [I a, I b, I c, I d, I e, I f, I g, U l]]) (br (decide (i ≥ e)) (K (I (-1)) [.cells 75 [I a, I b, I c, I d, I e, I f, I g, U l]]) (br (!chk a b c d e f g l == 0) (K (I (-1)) [.cells 75 [I a, I b, I c, I d, I e, I f, I g, U l]]) (K (I (IntKind.wrap .i64 (IntKind.wrap .i64 (IntKind.wrap .i64 (3 + a) + b) + IntKind.wrap .i64 (i * 2)))) [.cells 75 [I a, I b, I c, I d, I e, I f, I g, U l]]))) := by kernel_rfl
theorem u112 {Ω : Type} (it : Itr Ω) (K : SV → SH → Option Ω) (a b c d e f g l i : Int) :
    sxFnI it E112 A112 C112 [cfgS a b c d e f g l, I i] [] K =
    br (decide (i < 0)) (K (I (-1)) [.cells 75 [I a, I b, I c, I d, I e, I f, I g, U l]]) (br (decide (i ≥ e)) (K (I (-1)) [.cells 75 [I a, I b, I c, I d, I e, I f, I g, U l]]) (br (!chk a b c d e f g l == 0) (K (I (-1)) [.cells 75 [I a, I b, I c, I d, I e, I f, I g, U l]]) (K (I (IntKind.wrap .i64 (IntKind.wrap .i64 (IntKind.wrap .i64 (IntKind.wrap .i64 (3 + a) + b) + 1) + IntKind.wrap .i64 (i * 2)))) [.cells 75 [I a, I b, I c, I d, I e, I f, I g, U l]]))) := by kernel_rfl
theorem u117 {Ω : Type} (it : Itr Ω) (K : SV → SH → Option Ω) (a b c d e f g l i : Int) :
    sxFnI it E117 A117 C117 [cfgS a b c d e f g l, I i] [] K =
    br (!chk a b c d e f g l == 0) (br (decide (i < 0)) (K (I (-1)) [.cells 75 [I a, I b, I c, I d, I e, I f, I g, U l]]) (br (decide (i ≥ 0)) (K (I (-1)) [.cells 75 [I a, I b, I c, I d, I e, I f, I g, U l]]) (br (!chk a b c d e f g l == 0) (K (I (-1)) [.cells 75 [I a, I b, I c, I d, I e, I f, I g, U l]]) (K (I (IntKind.wrap .i64 (IntKind.wrap .i64 (IntKind.wrap .i64 (IntKind.wrap .i64 (3 + a) + b) + IntKind.wrap .i64 (2 * e)) + IntKind.wrap .i64 (i * IntKind.wrap .i64 (1 + d))))) [.cells 75 [I a, I b, I c, I d, I e, I f, I g, U l]])))) (br (decide (i < 0)) (K (I (-1)) [.cells 75 [I a, I b, I c, I d, I e, I f, I g, U l]]) (br (decide (i ≥ IntKind.wrap .i64 (b * c))) (K (I (-1)) [.cells 75 [I a, I b, I c, I d, I e, I f, I g, U l]]) (br (!chk a b c d e f g l == 0) (K (I (-1)) [.cells 75 [I a, I b, I c, I d, I e, I f, I g, U l]]) (K (I (IntKind.wrap .i64 (IntKind.wrap .i64 (IntKind.wrap .i64 (IntKind.wrap .i64 (3 + a) + b) + IntKind.wrap .i64 (2 * e)) + IntKind.wrap .i64 (i * IntKind.wrap .i64 (1 + d))))) [.cells 75 [I a, I b, I c, I d, I e, I f, I g, U l]])))) := by kernel_rfl

theorem atV_bad {a b c d e f g l k x y : Int} (h : ¬ chk a b c d e f g l = 0) : atV a b c d e f g l k x y = -1 := by
  unfold atV
  rw [show (chk a b c d e f g l == 0) = false by simp [h], cond_false]

abbrev H49 (a b c d e f g l : Int) : SH := [.cells 75 [I a, I b, I c, I d, I e, I f, I g, U l]]
section
variable {Ω : Type} (K : SV → SH → Option Ω) (a b c d e f g l i : Int)
theorem x111 : sxFn E111 A111 C111 [cfgS a b c d e f g l, I i] [] K = K (I (atV a b c d e f g l 3 i 0)) (H49 a b c d e f g l) := by
  rw [← sxFnI_eq, u111]
  by_cases hc : chk a b c d e f g l = 0
  · rw [at3 hc]
    obtain ⟨⟨a1, a2⟩, ⟨b1, b2⟩, ⟨c1, c2⟩, ⟨d1, d2⟩, ⟨e1, e2⟩, _⟩ := chk_zero hc
    by_cases h1 : i < 0
    · rw [decide_eq_true h1, br_t, if_neg (by omega)]
    · rw [decide_eq_false h1, br_f]
      by_cases h2 : i ≥ e
      · rw [decide_eq_true h2, br_t, if_neg (by omega)]
      · have hv : IntKind.wrap .i64 (IntKind.wrap .i64 (IntKind.wrap .i64 (3 + a) + b) + IntKind.wrap .i64 (i * 2)) = 3 + a + b + 2 * i := by rw [w64 (x := 3 + a) (by omega) (by omega), w64 (x := 3 + a + b) (by omega) (by omega), w64 (x := i * 2) (by omega) (by omega), w64 (by omega) (by omega)]; omega
        rw [decide_eq_false h2, br_f, show (!chk a b c d e f g l == 0) = false by simp [hc], br_f, hv, if_pos (by omega)]
  · rw [atV_bad hc, show (!chk a b c d e f g l == 0) = true by simp [hc], br_t]
    cases decide (i < 0) <;> cases decide (i ≥ e) <;> simp only [br_t, br_f]
theorem x112 : sxFn E112 A112 C112 [cfgS a b c d e f g l, I i] [] K = K (I (atV a b c d e f g l 4 i 0)) (H49 a b c d e f g l) := by
  rw [← sxFnI_eq, u112]
  by_cases hc : chk a b c d e f g l = 0
  · rw [at4 hc]
    obtain ⟨⟨a1, a2⟩, ⟨b1, b2⟩, ⟨c1, c2⟩, ⟨d1, d2⟩, ⟨e1, e2⟩, _⟩ := chk_zero hc
    by_cases h1 : i < 0
    · rw [decide_eq_true h1, br_t, if_neg (by omega)]
    · rw [decide_eq_false h1, br_f]
      by_cases h2 : i ≥ e
      · rw [decide_eq_true h2, br_t, if_neg (by omega)]
      · have hv : IntKind.wrap .i64 (IntKind.wrap .i64 (IntKind.wrap .i64 (IntKind.wrap .i64 (3 + a) + b) + 1) + IntKind.wrap .i64 (i * 2)) = 3 + a + b + 2 * i + 1 := by rw [w64 (x := 3 + a) (by omega) (by omega), w64 (x := 3 + a + b) (by omega) (by omega), w64 (x := 3 + a + b + 1) (by omega) (by omega), w64 (x := i * 2) (by omega) (by omega), w64 (by omega) (by omega)]; omega
        rw [decide_eq_false h2, br_f, show (!chk a b c d e f g l == 0) = false by simp [hc], br_f, hv, if_pos (by omega)]
  · rw [atV_bad hc, show (!chk a b c d e f g l == 0) = true by simp [hc], br_t]
    cases decide (i < 0) <;> cases decide (i ≥ e) <;> simp only [br_t, br_f]
theorem x117 : sxFn E117 A117 C117 [cfgS a b c d e f g l, I i] [] K = K (I (atV a b c d e f g l 5 i 0)) (H49 a b c d e f g l) := by
  rw [← sxFnI_eq, u117]
  by_cases hc : chk a b c d e f g l = 0
  · rw [at5 hc, show (!chk a b c d e f g l == 0) = false by simp [hc], br_f, br_f]
    obtain ⟨⟨a1, a2⟩, ⟨b1, b2⟩, ⟨c1, c2⟩, ⟨d1, d2⟩, ⟨e1, e2⟩, _⟩ := chk_zero hc
    have hbc : 0 ≤ b * c ∧ b * c ≤ 128 := by
      obtain ⟨Bn, rfl⟩ := Int.eq_ofNat_of_zero_le (show 0 ≤ b by omega)
      obtain ⟨Cn, rfl⟩ := Int.eq_ofNat_of_zero_le (show 0 ≤ c by omega)
      have hBC : Bn * Cn ≤ 8 * 16 := Nat.mul_le_mul (by omega) (by omega)
      rw [← Int.natCast_mul]; omega
    rw [w64 (x := b * c) (by omega) (by omega)]
    by_cases h1 : i < 0
    · rw [decide_eq_true h1, br_t, if_neg (by omega)]
    · rw [decide_eq_false h1, br_f]
      by_cases h2 : i ≥ b * c
      · rw [decide_eq_true h2, br_t, if_neg (by omega)]
      · have hi : 0 ≤ (1 + d) * i ∧ (1 + d) * i ≤ 5 * 128 := by
          obtain ⟨D, rfl⟩ := Int.eq_ofNat_of_zero_le (show 0 ≤ d by omega)
          obtain ⟨n, rfl⟩ := Int.eq_ofNat_of_zero_le (show 0 ≤ i by omega)
          have hP : (1 + D) * n ≤ 5 * 128 := Nat.mul_le_mul (by omega) (by omega)
          have e0 : (1 + (D : Int)) * (n : Int) = (((1 + D) * n : Nat) : Int) := by push_cast; rfl
          rw [e0]; omega
        rw [decide_eq_false h2, br_f, w64 (x := 3 + a) (by omega) (by omega), w64 (x := 3 + a + b) (by omega) (by omega), w64 (x := 2 * e) (by omega) (by omega), w64 (x := 3 + a + b + 2 * e) (by omega) (by omega),
          w64 (x := 1 + d) (by omega) (by omega), Int.mul_comm i (1 + d), w64 (x := (1 + d) * i) (by omega) (by omega), w64 (by omega) (by omega), if_pos (by omega)]
  · rw [atV_bad hc, show (!chk a b c d e f g l == 0) = true by simp [hc], br_t]
    cases decide (i < 0) <;> cases decide (i ≥ 0) <;> simp only [br_t, br_f]
end

/-- An address of one kind. -/
def FAd (k : Int) : List (List Int) → Option (Bool × SV × SH)
  | [[a, b, c, d, e, f, g, l], [i]] => some (true, I (atV a b c d e f g l k i 0), [])
  | _ => none
theorem one_of {α : Type} {l : List α} (h : l.length = 1) : ∃ a, l = [a] := by
  match l, h with
  | [a], _ => exact ⟨a, rfl⟩
def S111c {Ω : Type} : Spec Ω := conSpec [.g cfgK, .i .i64] (FAd 3)
theorem g111c : Good1 Try.prog 39 S111c := conGood Try.func39 (by kernel_rfl) c111 e111 mix (A := A111) fun L r hr hl hF => by
  obtain ⟨p, q, rfl, hp, s, q2, rfl, hs, hq⟩ := hl
  simp only [lenAs] at hq
  subst hq
  obtain ⟨a, b, c, d, e, f, g, l, rfl⟩ := eight hp
  obtain ⟨i, rfl⟩ := one_of hs
  simp only [FAd, Option.some.injEq, Prod.mk.injEq, true_and] at hF
  obtain ⟨rfl, rfl⟩ := hF
  exact ⟨trivial, trivial, _, trim_none rfl _, x111 _ a b c d e f g l i⟩
def S112c {Ω : Type} : Spec Ω := conSpec [.g cfgK, .i .i64] (FAd 4)
theorem g112c : Good1 Try.prog 98 S112c := conGood Try.func98 (by kernel_rfl) c112 e112 mix (A := A112) fun L r hr hl hF => by
  obtain ⟨p, q, rfl, hp, s, q2, rfl, hs, hq⟩ := hl
  simp only [lenAs] at hq
  subst hq
  obtain ⟨a, b, c, d, e, f, g, l, rfl⟩ := eight hp
  obtain ⟨i, rfl⟩ := one_of hs
  simp only [FAd, Option.some.injEq, Prod.mk.injEq, true_and] at hF
  obtain ⟨rfl, rfl⟩ := hF
  exact ⟨trivial, trivial, _, trim_none rfl _, x112 _ a b c d e f g l i⟩
def S117 {Ω : Type} : Spec Ω := conSpec [.g cfgK, .i .i64] (FAd 5)
theorem g117 : Good1 Try.prog 100 S117 := conGood Try.func100 (by kernel_rfl) c117 e117 mix (A := A117) fun L r hr hl hF => by
  obtain ⟨p, q, rfl, hp, s, q2, rfl, hs, hq⟩ := hl
  simp only [lenAs] at hq
  subst hq
  obtain ⟨a, b, c, d, e, f, g, l, rfl⟩ := eight hp
  obtain ⟨i, rfl⟩ := one_of hs
  simp only [FAd, Option.some.injEq, Prod.mk.injEq, true_and] at hF
  obtain ⟨rfl, rfl⟩ := hF
  exact ⟨trivial, trivial, _, trim_none rfl _, x117 _ a b c d e f g l i⟩
end Go.Sx.Pr

/- Contracts: the document's Low and power. -/
namespace Go.Sx.Pr
open Go Go.Sx Go.Proofs
set_option maxRecDepth 100000

abbrev S80s (w bits n i : Int) : SS := ⟨[(0, U w), (1, I bits), (5, U n), (6, I i)], []⟩
abbrev S83s (bits n i : Int) : SS := ⟨[(0, I bits), (3, U n), (4, I i)], []⟩
theorem l80 {Ω : Type} (it : Itr Ω) (K : SV → SH → Option Ω) (w bits : Int) :
    sxFnI it E80 A80 C80 [U w, I bits] [] K =
    it [0, 1, 5, 6] 0 (sxI it E80 A80 L80_2 0) (SS.mk [(0, U w), (1, I bits), (5, U 1), (6, I 0)] []) (Z80_2 it K) := by kernel_rfl
theorem l80_1 {Ω : Type} (it : Itr Ω) (IT : SS → Option Ω) (K : SV → SH → Option Ω) (w bits n i : Int) :
    sxI it E80 A80 L80_2 0 (S80s w bits n i) (kitV [0, 1, 5, 6] 0 IT (Z80_2 it K)) =
    br (decide (i < bits)) (IT (SS.mk [(0, U w), (1, I bits), (5, U (IntKind.wrap .u64 (n * 2))), (6, I (IntKind.wrap .i64 (i + 1)))] [])) (br (decide (bits > 63)) (K (U w) []) (br (n == 0) none (K (U (Int.tmod w n)) []))) := by kernel_rfl
theorem l83 {Ω : Type} (it : Itr Ω) (K : SV → SH → Option Ω) (bits : Int) :
    sxFnI it E83 A83 C83 [I bits] [] K =
    it [0, 3, 4] 0 (sxI it E83 A83 L83_2 0) (SS.mk [(0, I bits), (3, U 1), (4, I 0)] []) (Z83_2 it K) := by kernel_rfl
theorem l83_1 {Ω : Type} (it : Itr Ω) (IT : SS → Option Ω) (K : SV → SH → Option Ω) (bits n i : Int) :
    sxI it E83 A83 L83_2 0 (S83s bits n i) (kitV [0, 3, 4] 0 IT (Z83_2 it K)) =
    br (decide (i < bits)) (IT (SS.mk [(0, I bits), (3, U (IntKind.wrap .u64 (n * 2))), (4, I (IntKind.wrap .i64 (i + 1)))] [])) (K (U n) []) := by kernel_rfl

theorem pow_le {i : Nat} (h : i ≤ 63) : (2 : Int) ^ i ≤ 9223372036854775808 := by
  have := Nat.pow_le_pow_right (show 0 < 2 by omega) h
  have e : ((2 ^ i : Nat) : Int) = (2 : Int) ^ i := by push_cast; rfl
  rw [← e]
  omega

theorem pow_pos' (i : Nat) : (1 : Int) ≤ 2 ^ i := by
  have := Nat.pow_pos (show 0 < 2 by omega) (n := i)
  have e : ((2 ^ i : Nat) : Int) = (2 : Int) ^ i := by push_cast; rfl
  rw [← e]
  omega

theorem dbl {i : Nat} (h : i + 1 ≤ 63) : IntKind.wrap .u64 ((2 : Int) ^ i * 2) = 2 ^ (i + 1) := by
  rw [← Int.pow_succ]
  have := pow_le h
  have := pow_pos' (i + 1)
  rw [IntKind.wrap_u64]
  omega

theorem v80 {w : Int} {n : Nat} (hw : 0 ≤ w) (hn : n ≤ 63) : sxFn E80 A80 C80 [U w, I n] [] KS = some (U (w % 2 ^ n), []) := by
  rw [← sxFnI_eq, l80, itB_def]
  obtain ⟨N, h⟩ := loop_n (f := sxI itB E80 A80 L80_2 0) (lv := [0, 1, 5, 6]) (n0 := 0) (k := Z80_2 itB KS) (fun i => S80s w n (2 ^ i) (i : Int)) big n (by unfold big; omega) (fun i hi I => by
    rw [l80_1, decide_eq_true (by omega), br_t, dbl (by omega), w64 (by omega) (by omega)]; rfl)
  refine Eq.trans h ?_
  rw [l80_1, decide_eq_false (by omega), br_f]
  have h1 : decide ((n : Int) > 63) = false := by simp; omega
  have h2 : ((2 : Int) ^ n == 0) = false := by
    have := pow_pos' n
    simp; omega
  rw [h1, h2, br_f, br_f, Int.tmod_eq_emod_of_nonneg hw]

theorem v83 {n : Nat} (hn : n ≤ 63) : sxFn E83 A83 C83 [I n] [] KS = some (U (2 ^ n), []) := by
  rw [← sxFnI_eq, l83, itB_def]
  obtain ⟨N, h⟩ := loop_n (f := sxI itB E83 A83 L83_2 0) (lv := [0, 3, 4]) (n0 := 0) (k := Z83_2 itB KS) (fun i => S83s n (2 ^ i) (i : Int)) big n (by unfold big; omega) (fun i hi I => by
    rw [l83_1, decide_eq_true (by omega), br_t, dbl (by omega), w64 (by omega) (by omega)]; rfl)
  refine Eq.trans h ?_
  rw [l83_1, decide_eq_false (by omega), br_f]

def FLow : List (List Int) → Option (Bool × SV × SH)
  | [[w], [bits]] => some (decide (0 ≤ w) && (decide (0 ≤ bits) && decide (bits ≤ 63)), U (w % 2 ^ bits.toNat), [])
  | _ => none
def FPow : List (List Int) → Option (Bool × SV × SH)
  | [[bits]] => some (decide (0 ≤ bits) && decide (bits ≤ 63), U (2 ^ bits.toNat), [])
  | _ => none
theorem one_of' {α : Type} {l : List α} (h : l.length = 1) : ∃ a, l = [a] := by
  match l, h with
  | [a], _ => exact ⟨a, rfl⟩
def S80c {Ω : Type} : Spec Ω := conSpec [.i .u64, .i .i64] FLow
theorem g80c : Good1 Try.prog 66 S80c := conGood Try.func66 (by kernel_rfl) c80 e80 mix (A := A80) fun L r hr hl hF => by
  obtain ⟨p, q, rfl, hp, s, q2, rfl, hs, hq⟩ := hl
  simp only [lenAs] at hq
  subst hq
  obtain ⟨w, rfl⟩ := one_of' hp
  obtain ⟨bits, rfl⟩ := one_of' hs
  simp only [FLow, Option.some.injEq, Prod.mk.injEq, Bool.and_eq_true, decide_eq_true_eq] at hF
  obtain ⟨⟨h0, h1, h2⟩, rfl, rfl⟩ := hF
  obtain ⟨n, rfl⟩ := Int.eq_ofNat_of_zero_le h1
  exact ⟨trivial, trivial, _, trim_none rfl _, v80 h0 (by omega)⟩
def S83c {Ω : Type} : Spec Ω := conSpec [.i .i64] FPow
theorem g83c : Good1 Try.prog 67 S83c := conGood Try.func67 (by kernel_rfl) c83 e83 mix (A := A83) fun L r hr hl hF => by
  obtain ⟨p, q, rfl, hp, hq⟩ := hl
  simp only [lenAs] at hq
  subst hq
  obtain ⟨bits, rfl⟩ := one_of' hp
  simp only [FPow, Option.some.injEq, Prod.mk.injEq, Bool.and_eq_true, decide_eq_true_eq] at hF
  obtain ⟨⟨h1, h2⟩, rfl, rfl⟩ := hF
  obtain ⟨n, rfl⟩ := Int.eq_ofNat_of_zero_le h1
  exact ⟨trivial, trivial, _, trim_none rfl _, v83 (by omega)⟩
end Go.Sx.Pr

/- Arguments whose cells are integers, booleans and slices of integers: structs and arrays of such. -/
namespace Go.Sx

/-- What a cell holds. -/
inductive CT where
  | i (k : IntKind)
  | b
  | s (k : IntKind)

def tyC : DV → CT → Prop
  | x, .i k => ∃ n, x = .v (.int k n) ∧ (Lit.int k n).wf = true
  | x, .b => ∃ n, x = .v (.bool n)
  | x, .s k => ∃ xs : List Int, x = .ints k xs ∧ ∀ n ∈ xs, (Lit.int k n).wf = true

def Typ : List DV → List CT → Prop
  | [], [] => True
  | x :: r, c :: cs => tyC x c ∧ Typ r cs
  | _, _ => False

theorem Typ.append : ∀ {l l' : List DV} {a b : List CT}, Typ l a → Typ l' b → Typ (l ++ l') (a ++ b)
  | [], _, [], _, _, h => h
  | _ :: _, _, _ :: _, _, h, h' => ⟨h.1, Typ.append h.2 h'⟩
  | [], _, _ :: _, _, h, _ => h.elim
  | _ :: _, _, [], _, h, _ => h.elim

theorem Typ.split {l : List DV} {n : Nat} {a b : List CT} (h : Typ (l.take n) a) (h' : Typ (l.drop n) b) : Typ l (a ++ b) := by
  have := Typ.append h h'
  rwa [List.take_append_drop] at this

def getB : DV → Bool
  | .v (.bool x) => x
  | _ => false
def getS : DV → List Int
  | .ints _ l => l
  | _ => []

/-- Cells by the numbers, truths and lists that they hold. -/
def cellsD : List CT → Nat → (Nat → Int) → (Nat → Bool) → (Nat → List Int) → List DV
  | [], _, _, _, _ => []
  | .i k :: r, j, iv, bv, sv => .v (.int k (iv j)) :: cellsD r (j + 1) iv bv sv
  | .b :: r, j, iv, bv, sv => .v (.bool (bv j)) :: cellsD r (j + 1) iv bv sv
  | .s k :: r, j, iv, bv, sv => .ints k (sv j) :: cellsD r (j + 1) iv bv sv

end Go.Sx
