/- Contract: the document's address of a word. -/
import Derived.Test.YthbknbmfcklebaaGreatN1
import Derived.Test.YthbknbmfcklebaaGreatRows
import Derived.KernelRfl
import Derived.Test.YthbknbmfcklebaaGreatN1
import Derived.Test.YthbknbmfcklebaaGreatSxLoop
import Derived.Test.YthbknbmfcklebaaGreatSxCon3
set_option linter.all false
set_option linter.unusedVariables false
set_option linter.unusedSimpArgs false
set_option linter.unnecessarySimpa false
namespace Go.Sx.Pr
open Go Go.Sx Go.Proofs
set_option maxRecDepth 100000

/-- Where a place first stands among m from i on. -/
def srch (sp : Nat → Nat → Int) (k x y : Int) : Nat → Nat → Int
  | 0, _ => -1
  | m + 1, i => bif (sp i 0 == k) && ((sp i 1 == x) && (sp i 2 == y)) then (i : Int) else srch sp k x y m (i + 1)

/-- The address of a word. -/
def atV (a b c d e f g l k x y : Int) : Int :=
  bif chk a b c d e f g l == 0 then srch (spot a.toNat b.toNat d.toNat e.toNat) k x y (sizeN a.toNat b.toNat c.toNat d.toNat e.toNat) 0 else -1

theorem size_le {a b c d e f g l : Int} (h : chk a b c d e f g l = 0) : sizeN a.toNat b.toNat c.toNat d.toNat e.toNat ≤ 1000 := by
  obtain ⟨⟨a1, a2⟩, ⟨b1, b2⟩, ⟨c1, c2⟩, ⟨g1, g2⟩, ⟨e1, e2⟩, _⟩ := chk_zero h
  have hBC : b.toNat * c.toNat ≤ 8 * 16 := Nat.mul_le_mul (by omega) (by omega)
  have hP : (1 + d.toNat) * (b.toNat * c.toNat) ≤ 5 * 128 := Nat.mul_le_mul (by omega) (by omega)
  unfold sizeN; omega

/-! ### what the search comes to -/
theorem srch_hit {sp : Nat → Nat → Int} {k x y : Int} {t : Nat} (ht : sp t 0 = k ∧ sp t 1 = x ∧ sp t 2 = y) : ∀ (m i : Nat), i ≤ t → t < i + m → (∀ j, i ≤ j → j < t → ¬ (sp j 0 = k ∧ sp j 1 = x ∧ sp j 2 = y)) → srch sp k x y m i = (t : Int)
  | 0, i, h1, h2, _ => by omega
  | m + 1, i, h1, h2, h3 => by
    simp only [srch]
    rcases Nat.eq_or_lt_of_le h1 with h | h
    · subst h
      have : ((sp i 0 == k) && ((sp i 1 == x) && (sp i 2 == y))) = true := by simp [ht]
      rw [this, cond_true]
    · have hn := h3 i (Nat.le_refl _) h
      have : ((sp i 0 == k) && ((sp i 1 == x) && (sp i 2 == y))) = false := by
        rw [Bool.eq_false_iff]
        intro h4
        simp only [Bool.and_eq_true, beq_iff_eq] at h4
        exact hn h4
      rw [this, cond_false]
      exact srch_hit ht m (i + 1) h (by omega) fun j h5 h6 => h3 j (by omega) h6

theorem srch_miss {sp : Nat → Nat → Int} {k x y : Int} : ∀ (m i : Nat), (∀ j, i ≤ j → j < i + m → ¬ (sp j 0 = k ∧ sp j 1 = x ∧ sp j 2 = y)) → srch sp k x y m i = -1
  | 0, i, _ => rfl
  | m + 1, i, h3 => by
    simp only [srch]
    have hn := h3 i (Nat.le_refl _) (by omega)
    have : ((sp i 0 == k) && ((sp i 1 == x) && (sp i 2 == y))) = false := by
      rw [Bool.eq_false_iff]
      intro h4
      simp only [Bool.and_eq_true, beq_iff_eq] at h4
      exact hn h4
    rw [this, cond_false]
    exact srch_miss m (i + 1) fun j h5 h6 => h3 j (by omega) (by omega)
end Go.Sx.Pr

/- The document's addresses, closed forms. -/
namespace Go.Sx.Pr
open Go Go.Sx Go.Proofs
set_option maxRecDepth 100000

theorem spot_cases (A Bn D E j : Nat) :
    (j < 3 ∧ spot A Bn D E j 0 = 0 ∧ spot A Bn D E j 1 = (j : Int) ∧ spot A Bn D E j 2 = 0) ∨
    (3 ≤ j ∧ j < 3 + A ∧ spot A Bn D E j 0 = 1 ∧ spot A Bn D E j 1 = ((j - 3 : Nat) : Int) ∧ spot A Bn D E j 2 = 0) ∨
    (3 + A ≤ j ∧ j < 3 + A + Bn ∧ spot A Bn D E j 0 = 2 ∧ spot A Bn D E j 1 = ((j - (3 + A) : Nat) : Int) ∧ spot A Bn D E j 2 = 0) ∨
    (3 + A + Bn ≤ j ∧ j < 3 + A + Bn + 2 * E ∧ (j - (3 + A + Bn)) % 2 = 0 ∧ spot A Bn D E j 0 = 3 ∧ spot A Bn D E j 1 = (((j - (3 + A + Bn)) / 2 : Nat) : Int) ∧ spot A Bn D E j 2 = 0) ∨
    (3 + A + Bn ≤ j ∧ j < 3 + A + Bn + 2 * E ∧ (j - (3 + A + Bn)) % 2 = 1 ∧ spot A Bn D E j 0 = 4 ∧ spot A Bn D E j 1 = (((j - (3 + A + Bn)) / 2 : Nat) : Int) ∧ spot A Bn D E j 2 = 0) ∨
    (3 + A + Bn + 2 * E ≤ j ∧ (j - (3 + A + Bn + 2 * E)) % (1 + D) = 0 ∧ spot A Bn D E j 0 = 5 ∧ spot A Bn D E j 1 = (((j - (3 + A + Bn + 2 * E)) / (1 + D) : Nat) : Int) ∧ spot A Bn D E j 2 = 0) ∨
    (3 + A + Bn + 2 * E ≤ j ∧ (j - (3 + A + Bn + 2 * E)) % (1 + D) ≠ 0 ∧ spot A Bn D E j 0 = 6 ∧ spot A Bn D E j 1 = (((j - (3 + A + Bn + 2 * E)) / (1 + D) : Nat) : Int) ∧ spot A Bn D E j 2 = (((j - (3 + A + Bn + 2 * E)) % (1 + D) - 1 : Nat) : Int)) := by
  unfold spot spotL
  by_cases h1 : j < 3
  · rw [if_pos h1]; exact .inl ⟨h1, rfl, rfl, rfl⟩
  · rw [if_neg h1]
    by_cases h2 : j < 3 + A
    · rw [if_pos h2]; exact .inr (.inl ⟨by omega, h2, rfl, rfl, rfl⟩)
    · rw [if_neg h2]
      by_cases h3 : j < 3 + A + Bn
      · rw [if_pos h3]; exact .inr (.inr (.inl ⟨by omega, h3, rfl, rfl, rfl⟩))
      · rw [if_neg h3]
        by_cases h4 : j < 3 + A + Bn + 2 * E
        · rw [if_pos h4]
          rcases Nat.mod_two_eq_zero_or_one (j - (3 + A + Bn)) with h5 | h5
          · rw [h5, if_pos rfl]; exact .inr (.inr (.inr (.inl ⟨by omega, h4, rfl, rfl, rfl, rfl⟩)))
          · rw [h5, if_neg (by omega)]; exact .inr (.inr (.inr (.inr (.inl ⟨by omega, h4, rfl, rfl, rfl, rfl⟩))))
        · rw [if_neg h4]
          by_cases h5 : (j - (3 + A + Bn + 2 * E)) % (1 + D) = 0
          · rw [if_pos h5]; exact .inr (.inr (.inr (.inr (.inr (.inl ⟨by omega, h5, rfl, rfl, rfl⟩)))))
          · rw [if_neg h5]; exact .inr (.inr (.inr (.inr (.inr (.inr ⟨by omega, h5, rfl, rfl, rfl⟩)))))

/-- One place, one address. -/
theorem spot_inj {A Bn D E j t : Nat} (h0 : spot A Bn D E j 0 = spot A Bn D E t 0) (h1 : spot A Bn D E j 1 = spot A Bn D E t 1) (h2 : spot A Bn D E j 2 = spot A Bn D E t 2) : j = t := by
  rcases spot_cases A Bn D E j with ⟨a1, a2, a3, a4⟩ | ⟨a0, a1, a2, a3, a4⟩ | ⟨a0, a1, a2, a3, a4⟩ | ⟨a0, a1, a5, a2, a3, a4⟩ | ⟨a0, a1, a5, a2, a3, a4⟩ | ⟨a0, a5, a2, a3, a4⟩ | ⟨a0, a5, a2, a3, a4⟩ <;>
  rcases spot_cases A Bn D E t with ⟨b1, b2, b3, b4⟩ | ⟨b0, b1, b2, b3, b4⟩ | ⟨b0, b1, b2, b3, b4⟩ | ⟨b0, b1, b5, b2, b3, b4⟩ | ⟨b0, b1, b5, b2, b3, b4⟩ | ⟨b0, b5, b2, b3, b4⟩ | ⟨b0, b5, b2, b3, b4⟩ <;>
  rw [a2, b2] at h0 <;> (try (exfalso; omega)) <;> rw [a3, b3] at h1 <;> rw [a4, b4] at h2
  · omega
  · omega
  · omega
  · omega
  · omega
  · have e1 := Nat.div_add_mod (j - (3 + A + Bn + 2 * E)) (1 + D)
    have e2 := Nat.div_add_mod (t - (3 + A + Bn + 2 * E)) (1 + D)
    have e3 : (j - (3 + A + Bn + 2 * E)) / (1 + D) = (t - (3 + A + Bn + 2 * E)) / (1 + D) := by omega
    rw [e3, a5] at e1
    rw [b5] at e2
    omega
  · have e1 := Nat.div_add_mod (j - (3 + A + Bn + 2 * E)) (1 + D)
    have e2 := Nat.div_add_mod (t - (3 + A + Bn + 2 * E)) (1 + D)
    have e3 : (j - (3 + A + Bn + 2 * E)) / (1 + D) = (t - (3 + A + Bn + 2 * E)) / (1 + D) := by omega
    have e4 : (j - (3 + A + Bn + 2 * E)) % (1 + D) = (t - (3 + A + Bn + 2 * E)) % (1 + D) := by omega
    rw [e3, e4] at e1
    omega

section
variable {a b c d e f g l : Int} (hc : chk a b c d e f g l = 0)
 include hc

theorem at_hit {k x y : Int} {t : Nat} (ht : t < sizeN a.toNat b.toNat c.toNat d.toNat e.toNat) (h0 : spot a.toNat b.toNat d.toNat e.toNat t 0 = k) (h1 : spot a.toNat b.toNat d.toNat e.toNat t 1 = x) (h2 : spot a.toNat b.toNat d.toNat e.toNat t 2 = y) :
    atV a b c d e f g l k x y = (t : Int) := by
  unfold atV
  rw [show (chk a b c d e f g l == 0) = true by simp [hc], cond_true]
  exact srch_hit ⟨h0, h1, h2⟩ _ 0 (by omega) (by omega) fun j _ hj hs => by
    have := spot_inj (hs.1.trans h0.symm) (hs.2.1.trans h1.symm) (hs.2.2.trans h2.symm)
    omega

theorem at_miss {k x y : Int} (h : ∀ j, j < sizeN a.toNat b.toNat c.toNat d.toNat e.toNat → ¬ (spot a.toNat b.toNat d.toNat e.toNat j 0 = k ∧ spot a.toNat b.toNat d.toNat e.toNat j 1 = x ∧ spot a.toNat b.toNat d.toNat e.toNat j 2 = y)) :
    atV a b c d e f g l k x y = -1 := by
  unfold atV
  rw [show (chk a b c d e f g l == 0) = true by simp [hc], cond_true]
  exact srch_miss _ 0 fun j _ hj => h j (by omega)

/-- The announcement of worker i. -/
theorem at1 (i : Int) : atV a b c d e f g l 1 i 0 = if 0 ≤ i ∧ i < a then 3 + i else -1 := by
  obtain ⟨⟨a1, a2⟩, _⟩ := chk_zero hc
  split
  · rename_i h
    rw [at_hit hc (t := (3 + i).toNat) (by unfold sizeN; omega)]
    · omega
    all_goals rcases spot_cases a.toNat b.toNat d.toNat e.toNat (3 + i).toNat with h1 | h1 | h1 | h1 | h1 | h1 | h1 <;> omega
  · rename_i h
    refine at_miss hc fun j _ hs => ?_
    rcases spot_cases a.toNat b.toNat d.toNat e.toNat j with h1 | h1 | h1 | h1 | h1 | h1 | h1 <;> omega

/-- The word of slab i. -/
theorem at2 (i : Int) : atV a b c d e f g l 2 i 0 = if 0 ≤ i ∧ i < b then 3 + a + i else -1 := by
  obtain ⟨⟨a1, a2⟩, ⟨b1, b2⟩, _⟩ := chk_zero hc
  split
  · rename_i h
    rw [at_hit hc (t := (3 + a + i).toNat) (by unfold sizeN; omega)]
    · omega
    all_goals rcases spot_cases a.toNat b.toNat d.toNat e.toNat (3 + a + i).toNat with h1 | h1 | h1 | h1 | h1 | h1 | h1 <;> omega
  · rename_i h
    refine at_miss hc fun j _ hs => ?_
    rcases spot_cases a.toNat b.toNat d.toNat e.toNat j with h1 | h1 | h1 | h1 | h1 | h1 | h1 <;> omega

/-- The word of entry i, and its link. -/
theorem at3 (i : Int) : atV a b c d e f g l 3 i 0 = if 0 ≤ i ∧ i < e then 3 + a + b + 2 * i else -1 := by
  obtain ⟨⟨a1, a2⟩, ⟨b1, b2⟩, _, _, ⟨e1, e2⟩, _⟩ := chk_zero hc
  split
  · rename_i h
    rw [at_hit hc (t := (3 + a + b + 2 * i).toNat) (by unfold sizeN; omega)]
    · omega
    all_goals rcases spot_cases a.toNat b.toNat d.toNat e.toNat (3 + a + b + 2 * i).toNat with h1 | h1 | h1 | h1 | h1 | h1 | h1 <;> omega
  · rename_i h
    refine at_miss hc fun j _ hs => ?_
    rcases spot_cases a.toNat b.toNat d.toNat e.toNat j with h1 | h1 | h1 | h1 | h1 | h1 | h1 <;> omega
theorem at4 (i : Int) : atV a b c d e f g l 4 i 0 = if 0 ≤ i ∧ i < e then 3 + a + b + 2 * i + 1 else -1 := by
  obtain ⟨⟨a1, a2⟩, ⟨b1, b2⟩, _, _, ⟨e1, e2⟩, _⟩ := chk_zero hc
  split
  · rename_i h
    rw [at_hit hc (t := (3 + a + b + 2 * i + 1).toNat) (by unfold sizeN; omega)]
    · omega
    all_goals rcases spot_cases a.toNat b.toNat d.toNat e.toNat (3 + a + b + 2 * i + 1).toNat with h1 | h1 | h1 | h1 | h1 | h1 | h1 <;> omega
  · rename_i h
    refine at_miss hc fun j _ hs => ?_
    rcases spot_cases a.toNat b.toNat d.toNat e.toNat j with h1 | h1 | h1 | h1 | h1 | h1 | h1 <;> omega
end
end Go.Sx.Pr

/- The document's addresses of blocks' links and words, closed forms. -/
namespace Go.Sx.Pr
open Go Go.Sx Go.Proofs
set_option maxRecDepth 100000

section
variable {a b c d e f g l : Int} (hc : chk a b c d e f g l = 0)
 include hc

/-- The link of block i. -/
theorem at5 (i : Int) : atV a b c d e f g l 5 i 0 = if 0 ≤ i ∧ i < b * c then 3 + a + b + 2 * e + (1 + d) * i else -1 := by
  obtain ⟨⟨a1, a2⟩, ⟨b1, b2⟩, ⟨c1, c2⟩, ⟨d1, d2⟩, ⟨e1, e2⟩, _⟩ := chk_zero hc
  obtain ⟨A, rfl⟩ := Int.eq_ofNat_of_zero_le (show 0 ≤ a by omega)
  obtain ⟨Bn, rfl⟩ := Int.eq_ofNat_of_zero_le (show 0 ≤ b by omega)
  obtain ⟨Cn, rfl⟩ := Int.eq_ofNat_of_zero_le (show 0 ≤ c by omega)
  obtain ⟨D, rfl⟩ := Int.eq_ofNat_of_zero_le (show 0 ≤ d by omega)
  obtain ⟨E, rfl⟩ := Int.eq_ofNat_of_zero_le (show 0 ≤ e by omega)
  split
  · rename_i h
    obtain ⟨n, rfl⟩ := Int.eq_ofNat_of_zero_le h.1
    have hn : n < Bn * Cn := by have := h.2; rw [← Int.natCast_mul] at this; omega
    have hmul : (1 + D) * (n + 1) ≤ (1 + D) * (Bn * Cn) := Nat.mul_le_mul_left _ hn
    rw [Nat.mul_succ] at hmul
    have hm : (3 + A + Bn + 2 * E + (1 + D) * n - (3 + A + Bn + 2 * E)) = (1 + D) * n := by omega
    have hd : ((1 + D) * n) / (1 + D) = n := Nat.mul_div_cancel_left _ (by omega)
    have hr : ((1 + D) * n) % (1 + D) = 0 := Nat.mul_mod_right _ _
    have hs := spot_cases A Bn D E (3 + A + Bn + 2 * E + (1 + D) * n)
    rw [hm, hd, hr] at hs
    have key : spot A Bn D E (3 + A + Bn + 2 * E + (1 + D) * n) 0 = 5 ∧ spot A Bn D E (3 + A + Bn + 2 * E + (1 + D) * n) 1 = (n : Int) ∧ spot A Bn D E (3 + A + Bn + 2 * E + (1 + D) * n) 2 = 0 := by
      rcases hs with h1 | h1 | h1 | h1 | h1 | h1 | h1
      · omega
      · omega
      · omega
      · omega
      · omega
      · exact ⟨h1.2.2.1, h1.2.2.2.1, h1.2.2.2.2⟩
      · exact absurd rfl h1.2.1
    rw [at_hit hc (t := 3 + A + Bn + 2 * E + (1 + D) * n) (by simp only [Int.toNat_natCast]; unfold sizeN; omega) key.1 key.2.1 key.2.2]
    push_cast
    rfl
  · rename_i h
    refine at_miss hc fun j hj hs => h ?_
    simp only [Int.toNat_natCast] at hj hs
    unfold sizeN at hj
    rcases spot_cases A Bn D E j with h1 | h1 | h1 | h1 | h1 | h1 | h1
    · omega
    · omega
    · omega
    · omega
    · omega
    · have h2 : (j - (3 + A + Bn + 2 * E)) / (1 + D) < Bn * Cn := Nat.div_lt_of_lt_mul (by omega)
      rw [← Int.natCast_mul]
      generalize (j - (3 + A + Bn + 2 * E)) / (1 + D) = Q at h1 h2
      generalize Bn * Cn = R at *
      omega
    · omega

end
end Go.Sx.Pr

namespace Go.Sx.Pr
open Go Go.Sx Go.Proofs
set_option maxRecDepth 100000
/-- (coatcheck/plan.Plan).Announce -/
def C88 : CF := ⟨2, [(4, none)],
 .seq (.reg false [⟨some 2, .box 64 8 (.t 0), none, 0⟩,
   ⟨some 4, .mv (.c (.d (.v (.int .i64 0)))), none, 0⟩])
 (.seq (.reg false [⟨some 5, .ld 8 true (.t 2), none, 0⟩,
   ⟨some 6, .mv (.t 1), none, 0⟩,
   ⟨some 7, .fa 0 (.t 2), none, 0⟩,
   ⟨some 8, .fa 0 (.t 7), none, 0⟩,
   ⟨some 9, .ld 1 false (.t 8), none, 0⟩,
   ⟨some 10, .call (.c (.fn (.func 82) [] [])) [.t 5, .c (.d (.v (.int .i64 3))), .t 6, .t 9, .c (.d (.v (.int .i64 1)))], none, 0⟩,
   ⟨some 4, .mv (.t 10), none, 0⟩])
 (.ret))⟩
theorem c88 : coF Tryz.prog Tryz.f93 = some C88 := by kernel_rfl
def A88 : Ann := { keep := [0, 1, 2, 4], live := [] }
def E88 {Ω : Type} : Env Ω := econs 82 S122 (enil)
theorem e88 : GoodE Tryz.prog E88 := GoodE.cons g122 (GoodE.nil)
/-- (coatcheck/plan.Plan).Slab -/
def C95 : CF := ⟨2, [(4, none)],
 .seq (.reg false [⟨some 2, .box 64 8 (.t 0), none, 0⟩,
   ⟨some 4, .mv (.c (.d (.v (.int .i64 0)))), none, 0⟩])
 (.seq (.reg true [⟨some 5, .ld 8 true (.t 2), none, 0⟩,
   ⟨some 6, .ld 8 true (.t 2), none, 0⟩,
   ⟨some 7, .call (.c (.fn (.func 121) [] [])) [.t 6], none, 2⟩,
   ⟨some 8, .mv (.t 1), none, 0⟩,
   ⟨some 9, .fa 0 (.t 2), none, 0⟩,
   ⟨some 10, .fa 1 (.t 9), none, 16⟩,
   ⟨some 11, .ld 1 false (.t 10), none, 48⟩,
   ⟨some 12, .call (.c (.fn (.func 82) [] [])) [.t 5, .t 7, .t 8, .t 11, .c (.d (.v (.int .i64 1)))], none, 127⟩,
   ⟨some 4, .mv (.t 12), none, 255⟩])
 (.ret))⟩
theorem c95 : coF Tryz.prog Tryz.f100 = some C95 := by kernel_rfl
def A95 : Ann := { keep := [0, 1, 2, 4], live := [] }
def E95 {Ω : Type} : Env Ω := econs 82 S122 (econs 121 S125 (enil))
theorem e95 : GoodE Tryz.prog E95 := GoodE.cons g122 (GoodE.cons g125 (GoodE.nil))
/-- (coatcheck/plan.Plan).BlockLink -/
def C117 : CF := ⟨2, [(4, none)],
 .seq (.reg false [⟨some 2, .box 64 8 (.t 0), none, 0⟩,
   ⟨some 4, .mv (.c (.d (.v (.int .i64 0)))), none, 0⟩])
 (.seq (.reg true [⟨some 5, .ld 8 true (.t 2), none, 0⟩,
   ⟨some 6, .ld 8 true (.t 2), none, 0⟩,
   ⟨some 7, .call (.c (.fn (.func 80) [] [])) [.t 6], none, 2⟩,
   ⟨some 8, .mv (.t 1), none, 0⟩,
   ⟨some 9, .ld 8 true (.t 2), none, 0⟩,
   ⟨some 10, .call (.c (.fn (.func 81) [] [])) [.t 9], none, 22⟩,
   ⟨some 11, .fa 0 (.t 2), none, 0⟩,
   ⟨some 12, .fa 3 (.t 11), none, 64⟩,
   ⟨some 13, .ld 1 false (.t 12), none, 192⟩,
   ⟨some 14, .bin .add (.c (.d (.v (.int .i64 1)))) (.t 13), none, 448⟩,
   ⟨some 15, .call (.c (.fn (.func 82) [] [])) [.t 5, .t 7, .t 8, .t 10, .t 14], none, 1023⟩,
   ⟨some 4, .mv (.t 15), none, 2047⟩])
 (.ret))⟩
theorem c117 : coF Tryz.prog Tryz.f87 = some C117 := by kernel_rfl
def A117 : Ann := { keep := [0, 1, 2, 4], live := [] }
def E117 {Ω : Type} : Env Ω := econs 80 S107 (econs 81 S108 (econs 82 S122 (enil)))
theorem e117 : GoodE Tryz.prog E117 := GoodE.cons g107 (GoodE.cons g108 (GoodE.cons g122 (GoodE.nil)))
end Go.Sx.Pr

/- Contracts: the plan's addresses are the document's. -/
namespace Go.Sx.Pr
open Go Go.Sx Go.Proofs
set_option maxRecDepth 100000

theorem u88 {Ω : Type} (it : Itr Ω) (K : SV → SH → Option Ω) (a b c d e f g l i : Int) :
    sxFnI it E88 A88 C88 [cfgS a b c d e f g l, I i] [] K =
    br (decide (i < 0)) (K (I (-1)) [.cells 64 [I a, I b, I c, I d, I e, I f, I g, U l]]) (br (decide (i ≥ a)) (K (I (-1)) [.cells 64 [I a, I b, I c, I d, I e, I f, I g, U l]]) (br (!chk a b c d e f g l == 0) (K (I (-1)) [.cells 64 [I a, I b, I c, I d, I e, I f, I g, U l]]) (K (I (IntKind.wrap .i64 (3 + IntKind.wrap .i64 (i * 1)))) [.cells 64 [I a, I b, I c, I d, I e, I f, I g, U l]]))) := by kernel_rfl
theorem u95 {Ω : Type} (it : Itr Ω) (K : SV → SH → Option Ω) (a b c d e f g l i : Int) :
    sxFnI it E95 A95 C95 [cfgS a b c d e f g l, I i] [] K =
    br (decide (i < 0)) (K (I (-1)) [.cells 64 [I a, I b, I c, I d, I e, I f, I g, U l]]) (br (decide (i ≥ b)) (K (I (-1)) [.cells 64 [I a, I b, I c, I d, I e, I f, I g, U l]]) (br (!chk a b c d e f g l == 0) (K (I (-1)) [.cells 64 [I a, I b, I c, I d, I e, I f, I g, U l]]) (K (I (IntKind.wrap .i64 (IntKind.wrap .i64 (3 + a) + IntKind.wrap .i64 (i * 1)))) [.cells 64 [I a, I b, I c, I d, I e, I f, I g, U l]]))) := by kernel_rfl
theorem u111 {Ω : Type} (it : Itr Ω) (K : SV → SH → Option Ω) (a b c d e f g l i : Int) :
    sxFnI it E111 A111 C111 [cfgS a b c d e f g l, I i] [] K =
    br (decide (i < 0)) (K (I (-1)) [.cells 64 [I a, I b, I c, I d, I e, I f, I g, U l]]) (br (decide (i ≥ e)) (K (I (-1)) [.cells 64 [I a, I b, I c, I d, I e, I f, I g, U l]]) (br (!chk a b c d e f g l == 0) (K (I (-1)) [.cells 64 [I a, I b, I c, I d, I e, I f, I g, U l]]) (K (I (IntKind.wrap .i64 (IntKind.wrap .i64 (IntKind.wrap .i64 (3 + a) + b) + IntKind.wrap .i64 (i * 2)))) [.cells 64 [I a, I b, I c, I d, I e, I f, I g, U l]]))) := by kernel_rfl
theorem u112 {Ω : Type} (it : Itr Ω) (K : SV → SH → Option Ω) (a b c d e f g l i : Int) :
    sxFnI it E112 A112 C112 [cfgS a b c d e f g l, I i] [] K =
    br (decide (i < 0)) (K (I (-1)) [.cells 64 [I a, I b, I c, I d, I e, I f, I g, U l]]) (br (decide (i ≥ e)) (K (I (-1)) [.cells 64 [I a, I b, I c, I d, I e, I f, I g, U l]]) (br (!chk a b c d e f g l == 0) (K (I (-1)) [.cells 64 [I a, I b, I c, I d, I e, I f, I g, U l]]) (K (I (IntKind.wrap .i64 (IntKind.wrap .i64 (IntKind.wrap .i64 (IntKind.wrap .i64 (3 + a) + b) + 1) + IntKind.wrap .i64 (i * 2)))) [.cells 64 [I a, I b, I c, I d, I e, I f, I g, U l]]))) := by kernel_rfl
theorem u117 {Ω : Type} (it : Itr Ω) (K : SV → SH → Option Ω) (a b c d e f g l i : Int) :
    sxFnI it E117 A117 C117 [cfgS a b c d e f g l, I i] [] K =
    br (!chk a b c d e f g l == 0) (br (decide (i < 0)) (K (I (-1)) [.cells 64 [I a, I b, I c, I d, I e, I f, I g, U l]]) (br (decide (i ≥ 0)) (K (I (-1)) [.cells 64 [I a, I b, I c, I d, I e, I f, I g, U l]]) (br (!chk a b c d e f g l == 0) (K (I (-1)) [.cells 64 [I a, I b, I c, I d, I e, I f, I g, U l]]) (K (I (IntKind.wrap .i64 (IntKind.wrap .i64 (IntKind.wrap .i64 (IntKind.wrap .i64 (3 + a) + b) + IntKind.wrap .i64 (2 * e)) + IntKind.wrap .i64 (i * IntKind.wrap .i64 (1 + d))))) [.cells 64 [I a, I b, I c, I d, I e, I f, I g, U l]])))) (br (decide (i < 0)) (K (I (-1)) [.cells 64 [I a, I b, I c, I d, I e, I f, I g, U l]]) (br (decide (i ≥ IntKind.wrap .i64 (b * c))) (K (I (-1)) [.cells 64 [I a, I b, I c, I d, I e, I f, I g, U l]]) (br (!chk a b c d e f g l == 0) (K (I (-1)) [.cells 64 [I a, I b, I c, I d, I e, I f, I g, U l]]) (K (I (IntKind.wrap .i64 (IntKind.wrap .i64 (IntKind.wrap .i64 (IntKind.wrap .i64 (3 + a) + b) + IntKind.wrap .i64 (2 * e)) + IntKind.wrap .i64 (i * IntKind.wrap .i64 (1 + d))))) [.cells 64 [I a, I b, I c, I d, I e, I f, I g, U l]])))) := by kernel_rfl

theorem atV_bad {a b c d e f g l k x y : Int} (h : ¬ chk a b c d e f g l = 0) : atV a b c d e f g l k x y = -1 := by
  unfold atV
  rw [show (chk a b c d e f g l == 0) = false by simp [h], cond_false]

abbrev H49 (a b c d e f g l : Int) : SH := [.cells 64 [I a, I b, I c, I d, I e, I f, I g, U l]]
section
variable {Ω : Type} (K : SV → SH → Option Ω) (a b c d e f g l i : Int)
theorem x88 : sxFn E88 A88 C88 [cfgS a b c d e f g l, I i] [] K = K (I (atV a b c d e f g l 1 i 0)) (H49 a b c d e f g l) := by
  rw [← sxFnI_eq, u88]
  by_cases hc : chk a b c d e f g l = 0
  · rw [at1 hc]
    obtain ⟨⟨a1, a2⟩, ⟨b1, b2⟩, ⟨c1, c2⟩, ⟨d1, d2⟩, ⟨e1, e2⟩, _⟩ := chk_zero hc
    by_cases h1 : i < 0
    · rw [decide_eq_true h1, br_t, if_neg (by omega)]
    · rw [decide_eq_false h1, br_f]
      by_cases h2 : i ≥ a
      · rw [decide_eq_true h2, br_t, if_neg (by omega)]
      · have hv : IntKind.wrap .i64 (3 + IntKind.wrap .i64 (i * 1)) = 3 + i := by rw [w64 (x := i * 1) (by omega) (by omega), w64 (by omega) (by omega)]; omega
        rw [decide_eq_false h2, br_f, show (!chk a b c d e f g l == 0) = false by simp [hc], br_f, hv, if_pos (by omega)]
  · rw [atV_bad hc, show (!chk a b c d e f g l == 0) = true by simp [hc], br_t]
    cases decide (i < 0) <;> cases decide (i ≥ a) <;> simp only [br_t, br_f]
theorem x95 : sxFn E95 A95 C95 [cfgS a b c d e f g l, I i] [] K = K (I (atV a b c d e f g l 2 i 0)) (H49 a b c d e f g l) := by
  rw [← sxFnI_eq, u95]
  by_cases hc : chk a b c d e f g l = 0
  · rw [at2 hc]
    obtain ⟨⟨a1, a2⟩, ⟨b1, b2⟩, ⟨c1, c2⟩, ⟨d1, d2⟩, ⟨e1, e2⟩, _⟩ := chk_zero hc
    by_cases h1 : i < 0
    · rw [decide_eq_true h1, br_t, if_neg (by omega)]
    · rw [decide_eq_false h1, br_f]
      by_cases h2 : i ≥ b
      · rw [decide_eq_true h2, br_t, if_neg (by omega)]
      · have hv : IntKind.wrap .i64 (IntKind.wrap .i64 (3 + a) + IntKind.wrap .i64 (i * 1)) = 3 + a + i := by rw [w64 (x := 3 + a) (by omega) (by omega), w64 (x := i * 1) (by omega) (by omega), w64 (by omega) (by omega)]; omega
        rw [decide_eq_false h2, br_f, show (!chk a b c d e f g l == 0) = false by simp [hc], br_f, hv, if_pos (by omega)]
  · rw [atV_bad hc, show (!chk a b c d e f g l == 0) = true by simp [hc], br_t]
    cases decide (i < 0) <;> cases decide (i ≥ b) <;> simp only [br_t, br_f]
theorem x111 : sxFn E111 A111 C111 [cfgS a b c d e f g l, I i] [] K = K (I (atV a b c d e f g l 3 i 0)) (H49 a b c d e f g l) := by
  rw [← sxFnI_eq, u111]
  by_cases hc : chk a b c d e f g l = 0
  · rw [at3 hc]
    obtain ⟨⟨a1, a2⟩, ⟨b1, b2⟩, ⟨c1, c2⟩, ⟨d1, d2⟩, ⟨e1, e2⟩, _⟩ := chk_zero hc
    by_cases h1 : i < 0
    · rw [decide_eq_true h1, br_t, if_neg (by omega)]
    · rw [decide_eq_false h1, br_f]
      by_cases h2 : i ≥ e
      · rw [decide_eq_true h2, br_t, if_neg (by omega)]
      · have hv : IntKind.wrap .i64 (IntKind.wrap .i64 (IntKind.wrap .i64 (3 + a) + b) + IntKind.wrap .i64 (i * 2)) = 3 + a + b + 2 * i := by rw [w64 (x := 3 + a) (by omega) (by omega), w64 (x := 3 + a + b) (by omega) (by omega), w64 (x := i * 2) (by omega) (by omega), w64 (by omega) (by omega)]; omega
        rw [decide_eq_false h2, br_f, show (!chk a b c d e f g l == 0) = false by simp [hc], br_f, hv, if_pos (by omega)]
  · rw [atV_bad hc, show (!chk a b c d e f g l == 0) = true by simp [hc], br_t]
    cases decide (i < 0) <;> cases decide (i ≥ e) <;> simp only [br_t, br_f]
theorem x112 : sxFn E112 A112 C112 [cfgS a b c d e f g l, I i] [] K = K (I (atV a b c d e f g l 4 i 0)) (H49 a b c d e f g l) := by
  rw [← sxFnI_eq, u112]
  by_cases hc : chk a b c d e f g l = 0
  · rw [at4 hc]
    obtain ⟨⟨a1, a2⟩, ⟨b1, b2⟩, ⟨c1, c2⟩, ⟨d1, d2⟩, ⟨e1, e2⟩, _⟩ := chk_zero hc
    by_cases h1 : i < 0
    · rw [decide_eq_true h1, br_t, if_neg (by omega)]
    · rw [decide_eq_false h1, br_f]
      by_cases h2 : i ≥ e
      · rw [decide_eq_true h2, br_t, if_neg (by omega)]
      · have hv : IntKind.wrap .i64 (IntKind.wrap .i64 (IntKind.wrap .i64 (IntKind.wrap .i64 (3 + a) + b) + 1) + IntKind.wrap .i64 (i * 2)) = 3 + a + b + 2 * i + 1 := by rw [w64 (x := 3 + a) (by omega) (by omega), w64 (x := 3 + a + b) (by omega) (by omega), w64 (x := 3 + a + b + 1) (by omega) (by omega), w64 (x := i * 2) (by omega) (by omega), w64 (by omega) (by omega)]; omega
        rw [decide_eq_false h2, br_f, show (!chk a b c d e f g l == 0) = false by simp [hc], br_f, hv, if_pos (by omega)]
  · rw [atV_bad hc, show (!chk a b c d e f g l == 0) = true by simp [hc], br_t]
    cases decide (i < 0) <;> cases decide (i ≥ e) <;> simp only [br_t, br_f]
theorem x117 : sxFn E117 A117 C117 [cfgS a b c d e f g l, I i] [] K = K (I (atV a b c d e f g l 5 i 0)) (H49 a b c d e f g l) := by
  rw [← sxFnI_eq, u117]
  by_cases hc : chk a b c d e f g l = 0
  · rw [at5 hc, show (!chk a b c d e f g l == 0) = false by simp [hc], br_f, br_f]
    obtain ⟨⟨a1, a2⟩, ⟨b1, b2⟩, ⟨c1, c2⟩, ⟨d1, d2⟩, ⟨e1, e2⟩, _⟩ := chk_zero hc
    have hbc : 0 ≤ b * c ∧ b * c ≤ 128 := by
      obtain ⟨Bn, rfl⟩ := Int.eq_ofNat_of_zero_le (show 0 ≤ b by omega)
      obtain ⟨Cn, rfl⟩ := Int.eq_ofNat_of_zero_le (show 0 ≤ c by omega)
      have hBC : Bn * Cn ≤ 8 * 16 := Nat.mul_le_mul (by omega) (by omega)
      rw [← Int.natCast_mul]; omega
    rw [w64 (x := b * c) (by omega) (by omega)]
    by_cases h1 : i < 0
    · rw [decide_eq_true h1, br_t, if_neg (by omega)]
    · rw [decide_eq_false h1, br_f]
      by_cases h2 : i ≥ b * c
      · rw [decide_eq_true h2, br_t, if_neg (by omega)]
      · have hi : 0 ≤ (1 + d) * i ∧ (1 + d) * i ≤ 5 * 128 := by
          obtain ⟨D, rfl⟩ := Int.eq_ofNat_of_zero_le (show 0 ≤ d by omega)
          obtain ⟨n, rfl⟩ := Int.eq_ofNat_of_zero_le (show 0 ≤ i by omega)
          have hP : (1 + D) * n ≤ 5 * 128 := Nat.mul_le_mul (by omega) (by omega)
          have e0 : (1 + (D : Int)) * (n : Int) = (((1 + D) * n : Nat) : Int) := by push_cast; rfl
          rw [e0]; omega
        rw [decide_eq_false h2, br_f, w64 (x := 3 + a) (by omega) (by omega), w64 (x := 3 + a + b) (by omega) (by omega), w64 (x := 2 * e) (by omega) (by omega), w64 (x := 3 + a + b + 2 * e) (by omega) (by omega),
          w64 (x := 1 + d) (by omega) (by omega), Int.mul_comm i (1 + d), w64 (x := (1 + d) * i) (by omega) (by omega), w64 (by omega) (by omega), if_pos (by omega)]
  · rw [atV_bad hc, show (!chk a b c d e f g l == 0) = true by simp [hc], br_t]
    cases decide (i < 0) <;> cases decide (i ≥ 0) <;> simp only [br_t, br_f]
end

/-- An address of one kind. -/
def FAd (k : Int) : List (List Int) → Option (Bool × SV × SH)
  | [[a, b, c, d, e, f, g, l], [i]] => some (true, I (atV a b c d e f g l k i 0), [])
  | _ => none
theorem one_of {α : Type} {l : List α} (h : l.length = 1) : ∃ a, l = [a] := by
  match l, h with
  | [a], _ => exact ⟨a, rfl⟩
def S88 {Ω : Type} : Spec Ω := conSpec [.g cfgK, .i .i64] (FAd 1)
theorem g88 : Good1 Tryz.prog 93 S88 := conGood Tryz.func93 (by kernel_rfl) c88 e88 mix (A := A88) fun L r hr hl hF => by
  obtain ⟨p, q, rfl, hp, s, q2, rfl, hs, hq⟩ := hl
  simp only [lenAs] at hq
  subst hq
  obtain ⟨a, b, c, d, e, f, g, l, rfl⟩ := eight hp
  obtain ⟨i, rfl⟩ := one_of hs
  simp only [FAd, Option.some.injEq, Prod.mk.injEq, true_and] at hF
  obtain ⟨rfl, rfl⟩ := hF
  exact ⟨trivial, trivial, _, trim_none rfl _, x88 _ a b c d e f g l i⟩
def S95 {Ω : Type} : Spec Ω := conSpec [.g cfgK, .i .i64] (FAd 2)
theorem g95 : Good1 Tryz.prog 100 S95 := conGood Tryz.func100 (by kernel_rfl) c95 e95 mix (A := A95) fun L r hr hl hF => by
  obtain ⟨p, q, rfl, hp, s, q2, rfl, hs, hq⟩ := hl
  simp only [lenAs] at hq
  subst hq
  obtain ⟨a, b, c, d, e, f, g, l, rfl⟩ := eight hp
  obtain ⟨i, rfl⟩ := one_of hs
  simp only [FAd, Option.some.injEq, Prod.mk.injEq, true_and] at hF
  obtain ⟨rfl, rfl⟩ := hF
  exact ⟨trivial, trivial, _, trim_none rfl _, x95 _ a b c d e f g l i⟩
def S111c {Ω : Type} : Spec Ω := conSpec [.g cfgK, .i .i64] (FAd 3)
theorem g111c : Good1 Tryz.prog 47 S111c := conGood Tryz.func47 (by kernel_rfl) c111 e111 mix (A := A111) fun L r hr hl hF => by
  obtain ⟨p, q, rfl, hp, s, q2, rfl, hs, hq⟩ := hl
  simp only [lenAs] at hq
  subst hq
  obtain ⟨a, b, c, d, e, f, g, l, rfl⟩ := eight hp
  obtain ⟨i, rfl⟩ := one_of hs
  simp only [FAd, Option.some.injEq, Prod.mk.injEq, true_and] at hF
  obtain ⟨rfl, rfl⟩ := hF
  exact ⟨trivial, trivial, _, trim_none rfl _, x111 _ a b c d e f g l i⟩
def S112c {Ω : Type} : Spec Ω := conSpec [.g cfgK, .i .i64] (FAd 4)
theorem g112c : Good1 Tryz.prog 48 S112c := conGood Tryz.func48 (by kernel_rfl) c112 e112 mix (A := A112) fun L r hr hl hF => by
  obtain ⟨p, q, rfl, hp, s, q2, rfl, hs, hq⟩ := hl
  simp only [lenAs] at hq
  subst hq
  obtain ⟨a, b, c, d, e, f, g, l, rfl⟩ := eight hp
  obtain ⟨i, rfl⟩ := one_of hs
  simp only [FAd, Option.some.injEq, Prod.mk.injEq, true_and] at hF
  obtain ⟨rfl, rfl⟩ := hF
  exact ⟨trivial, trivial, _, trim_none rfl _, x112 _ a b c d e f g l i⟩
def S117 {Ω : Type} : Spec Ω := conSpec [.g cfgK, .i .i64] (FAd 5)
theorem g117 : Good1 Tryz.prog 87 S117 := conGood Tryz.func87 (by kernel_rfl) c117 e117 mix (A := A117) fun L r hr hl hF => by
  obtain ⟨p, q, rfl, hp, s, q2, rfl, hs, hq⟩ := hl
  simp only [lenAs] at hq
  subst hq
  obtain ⟨a, b, c, d, e, f, g, l, rfl⟩ := eight hp
  obtain ⟨i, rfl⟩ := one_of hs
  simp only [FAd, Option.some.injEq, Prod.mk.injEq, true_and] at hF
  obtain ⟨rfl, rfl⟩ := hF
  exact ⟨trivial, trivial, _, trim_none rfl _, x117 _ a b c d e f g l i⟩
end Go.Sx.Pr

/- Contracts: the document's Low and power. -/
namespace Go.Sx.Pr
open Go Go.Sx Go.Proofs
set_option maxRecDepth 100000

abbrev S80s (w bits n i : Int) : SS := ⟨[(0, U w), (1, I bits), (5, U n), (6, I i)], []⟩
abbrev S83s (bits n i : Int) : SS := ⟨[(0, I bits), (3, U n), (4, I i)], []⟩
theorem l80 {Ω : Type} (it : Itr Ω) (K : SV → SH → Option Ω) (w bits : Int) :
    sxFnI it E80 A80 C80 [U w, I bits] [] K =
    it [0, 1, 5, 6] 0 (sxI it E80 A80 L80_2 0) (SS.mk [(0, U w), (1, I bits), (5, U 1), (6, I 0)] []) (Z80_2 it K) := by kernel_rfl
theorem l80_1 {Ω : Type} (it : Itr Ω) (IT : SS → Option Ω) (K : SV → SH → Option Ω) (w bits n i : Int) :
    sxI it E80 A80 L80_2 0 (S80s w bits n i) (kitV [0, 1, 5, 6] 0 IT (Z80_2 it K)) =
    br (decide (i < bits)) (IT (SS.mk [(0, U w), (1, I bits), (5, U (IntKind.wrap .u64 (n * 2))), (6, I (IntKind.wrap .i64 (i + 1)))] [])) (br (decide (bits > 63)) (K (U w) []) (br (n == 0) none (K (U (Int.tmod w n)) []))) := by kernel_rfl
theorem l83 {Ω : Type} (it : Itr Ω) (K : SV → SH → Option Ω) (bits : Int) :
    sxFnI it E83 A83 C83 [I bits] [] K =
    it [0, 3, 4] 0 (sxI it E83 A83 L83_2 0) (SS.mk [(0, I bits), (3, U 1), (4, I 0)] []) (Z83_2 it K) := by kernel_rfl
theorem l83_1 {Ω : Type} (it : Itr Ω) (IT : SS → Option Ω) (K : SV → SH → Option Ω) (bits n i : Int) :
    sxI it E83 A83 L83_2 0 (S83s bits n i) (kitV [0, 3, 4] 0 IT (Z83_2 it K)) =
    br (decide (i < bits)) (IT (SS.mk [(0, I bits), (3, U (IntKind.wrap .u64 (n * 2))), (4, I (IntKind.wrap .i64 (i + 1)))] [])) (K (U n) []) := by kernel_rfl

theorem pow_le {i : Nat} (h : i ≤ 63) : (2 : Int) ^ i ≤ 9223372036854775808 := by
  have := Nat.pow_le_pow_right (show 0 < 2 by omega) h
  have e : ((2 ^ i : Nat) : Int) = (2 : Int) ^ i := by push_cast; rfl
  rw [← e]
  omega

theorem pow_pos' (i : Nat) : (1 : Int) ≤ 2 ^ i := by
  have := Nat.pow_pos (show 0 < 2 by omega) (n := i)
  have e : ((2 ^ i : Nat) : Int) = (2 : Int) ^ i := by push_cast; rfl
  rw [← e]
  omega

theorem dbl {i : Nat} (h : i + 1 ≤ 63) : IntKind.wrap .u64 ((2 : Int) ^ i * 2) = 2 ^ (i + 1) := by
  rw [← Int.pow_succ]
  have := pow_le h
  have := pow_pos' (i + 1)
  rw [IntKind.wrap_u64]
  omega

theorem v80 {w : Int} {n : Nat} (hw : 0 ≤ w) (hn : n ≤ 63) : sxFn E80 A80 C80 [U w, I n] [] KS = some (U (w % 2 ^ n), []) := by
  rw [← sxFnI_eq, l80, itB_def]
  obtain ⟨N, h⟩ := loop_n (f := sxI itB E80 A80 L80_2 0) (lv := [0, 1, 5, 6]) (n0 := 0) (k := Z80_2 itB KS) (fun i => S80s w n (2 ^ i) (i : Int)) big n (by unfold big; omega) (fun i hi I => by
    rw [l80_1, decide_eq_true (by omega), br_t, dbl (by omega), w64 (by omega) (by omega)]; rfl)
  refine Eq.trans h ?_
  rw [l80_1, decide_eq_false (by omega), br_f]
  have h1 : decide ((n : Int) > 63) = false := by simp; omega
  have h2 : ((2 : Int) ^ n == 0) = false := by
    have := pow_pos' n
    simp; omega
  rw [h1, h2, br_f, br_f, Int.tmod_eq_emod_of_nonneg hw]

theorem v83 {n : Nat} (hn : n ≤ 63) : sxFn E83 A83 C83 [I n] [] KS = some (U (2 ^ n), []) := by
  rw [← sxFnI_eq, l83, itB_def]
  obtain ⟨N, h⟩ := loop_n (f := sxI itB E83 A83 L83_2 0) (lv := [0, 3, 4]) (n0 := 0) (k := Z83_2 itB KS) (fun i => S83s n (2 ^ i) (i : Int)) big n (by unfold big; omega) (fun i hi I => by
    rw [l83_1, decide_eq_true (by omega), br_t, dbl (by omega), w64 (by omega) (by omega)]; rfl)
  refine Eq.trans h ?_
  rw [l83_1, decide_eq_false (by omega), br_f]

def FLow : List (List Int) → Option (Bool × SV × SH)
  | [[w], [bits]] => some (decide (0 ≤ w) && (decide (0 ≤ bits) && decide (bits ≤ 63)), U (w % 2 ^ bits.toNat), [])
  | _ => none
def FPow : List (List Int) → Option (Bool × SV × SH)
  | [[bits]] => some (decide (0 ≤ bits) && decide (bits ≤ 63), U (2 ^ bits.toNat), [])
  | _ => none
theorem one_of' {α : Type} {l : List α} (h : l.length = 1) : ∃ a, l = [a] := by
  match l, h with
  | [a], _ => exact ⟨a, rfl⟩
def S80c {Ω : Type} : Spec Ω := conSpec [.i .u64, .i .i64] FLow
theorem g80c : Good1 Tryz.prog 77 S80c := conGood Tryz.func77 (by kernel_rfl) c80 e80 mix (A := A80) fun L r hr hl hF => by
  obtain ⟨p, q, rfl, hp, s, q2, rfl, hs, hq⟩ := hl
  simp only [lenAs] at hq
  subst hq
  obtain ⟨w, rfl⟩ := one_of' hp
  obtain ⟨bits, rfl⟩ := one_of' hs
  simp only [FLow, Option.some.injEq, Prod.mk.injEq, Bool.and_eq_true, decide_eq_true_eq] at hF
  obtain ⟨⟨h0, h1, h2⟩, rfl, rfl⟩ := hF
  obtain ⟨n, rfl⟩ := Int.eq_ofNat_of_zero_le h1
  exact ⟨trivial, trivial, _, trim_none rfl _, v80 h0 (by omega)⟩
def S83c {Ω : Type} : Spec Ω := conSpec [.i .i64] FPow
theorem g83c : Good1 Tryz.prog 78 S83c := conGood Tryz.func78 (by kernel_rfl) c83 e83 mix (A := A83) fun L r hr hl hF => by
  obtain ⟨p, q, rfl, hp, hq⟩ := hl
  simp only [lenAs] at hq
  subst hq
  obtain ⟨bits, rfl⟩ := one_of' hp
  simp only [FPow, Option.some.injEq, Prod.mk.injEq, Bool.and_eq_true, decide_eq_true_eq] at hF
  obtain ⟨⟨h1, h2⟩, rfl, rfl⟩ := hF
  obtain ⟨n, rfl⟩ := Int.eq_ofNat_of_zero_le h1
  exact ⟨trivial, trivial, _, trim_none rfl _, v83 (by omega)⟩
end Go.Sx.Pr

/- Words put together of fields, and taken apart. -/
namespace Go.Sx

theorem bor_add {a b : Int} {n : Nat} (ha : 0 ≤ a) (ha2 : a < 18446744073709551616) (hd : a % (2 ^ n : Nat) = 0) (hb : 0 ≤ b) (hb2 : b < (2 ^ n : Nat)) (hs : a + b < 18446744073709551616) : bor .u64 a b = a + b := by
  obtain ⟨A, rfl⟩ := Int.eq_ofNat_of_zero_le ha
  obtain ⟨B, rfl⟩ := Int.eq_ofNat_of_zero_le hb
  have hA : A % 2 ^ n = 0 := by exact_mod_cast hd
  have hB : B < 2 ^ n := by exact_mod_cast hb2
  unfold bor
  rw [show IntKind.bits .u64 = 64 from rfl, BitVec.toNat_or, BitVec.toNat_ofInt, BitVec.toNat_ofInt]
  have e1 : (((A : Int) % ((2 ^ 64 : Nat) : Int)).toNat) = A := by omega
  have e2 : (((B : Int) % ((2 ^ 64 : Nat) : Int)).toNat) = B := by omega
  rw [e1, e2]
  have e3 : A ||| B = A + B := by
    have h := Nat.shiftLeft_add_eq_or_of_lt hB (A / 2 ^ n)
    rw [Nat.shiftLeft_eq, Nat.div_mul_cancel (Nat.dvd_of_mod_eq_zero hA)] at h
    exact h.symm
  rw [e3, IntKind.wrap_u64]
  omega

theorem band_one {a : Int} (ha : 0 ≤ a) (ha2 : a < 18446744073709551616) : band .u64 a 1 = a % 2 := by
  obtain ⟨A, rfl⟩ := Int.eq_ofNat_of_zero_le ha
  unfold band
  rw [show IntKind.bits .u64 = 64 from rfl, BitVec.toNat_and, BitVec.toNat_ofInt, BitVec.toNat_ofInt]
  have e1 : (((A : Int) % ((2 ^ 64 : Nat) : Int)).toNat) = A := by omega
  have e2 : (((1 : Int) % ((2 ^ 64 : Nat) : Int)).toNat) = 1 := by decide
  rw [e1, e2, Nat.and_one_is_mod, IntKind.wrap_u64]
  omega

theorem pow2_pos (n : Nat) : (0 : Int) < 2 ^ n := by
  have : (0 : Nat) < 2 ^ n := Nat.pos_of_ne_zero (by simp)
  exact_mod_cast this

theorem shr_div {k : IntKind} {a : Int} {n : Nat} (h : n ≤ k.bits) : shr k a (n : Int) = a / 2 ^ n := by
  unfold shr
  rw [show min ((n : Int).toNat) k.bits = n by simp; omega]
  rw [Int.fdiv_eq_ediv_of_nonneg _ (Int.le_of_lt (pow2_pos n))]

theorem shl_mul {k : IntKind} {a : Int} {n : Nat} (h : n ≤ k.bits) : shl k a (n : Int) = k.wrap (a * 2 ^ n) := by
  unfold shl
  rw [show min ((n : Int).toNat) k.bits = n by simp; omega]

/-! ### the packed words -/
def pHead (p v : Int) : Int := v % 4294967296 * 4294967296 + (p + 1) % 4294967296
def pEntry (g b s : Int) : Int := g % 17592186044416 * 1048576 + ((b + 1) % 65536 * 16 + s % 16)
def pAnn (e : Int) (a : Bool) : Int := e % 9223372036854775808 * 2 + bif a then 1 else 0
def pSlab (s p t : Int) : Int := t % 281474976710656 * 65536 + (p % 4096 * 16 + s % 16)
def pTicket (e g : Int) : Int := g % 281474976710656 * 65536 + (e + 1) % 65536
end Go.Sx

/- The pure model: memory's operations, the steps of the layers. -/
namespace Go.Sx.Pr
open Go Go.Sx Go.Sx.Md

/-! ### memory -/
def ac0 : Ac := ⟨0, 0, 0, 0, 0⟩
def Mm.ok (m : Mm) (a : Int) : Bool := inB a m.ws.length
def Mm.get (m : Mm) (a : Int) : Int := m.ws.getD a.toNat 0
def mSee (m : Mm) (k a x y : Int) : Ac := bif Mm.ok m a then ⟨k, a, x, y, Mm.get m a⟩ else ac0
def mSet (m : Mm) (g : Bool) (a x : Int) : List Int := bif g then m.ws.set a.toNat x else m.ws
def mLoadV (m : Mm) (a : Int) : Int := bif Mm.ok m a then Mm.get m a else 0
def mLoad (m : Mm) (a : Int) : Mm := { m with s := mSee m 1 a 0 0 }
def mStore (m : Mm) (a x : Int) : Mm := { m with s := mSee m 2 a x 0, ws := mSet m (Mm.ok m a) a x }
def mCasB (m : Mm) (a x : Int) : Bool := Mm.ok m a && (Mm.get m a == x)
def mCas (m : Mm) (a x y : Int) : Mm := { m with s := mSee m 3 a x y, ws := mSet m (mCasB m a x) a y }
def mAdd (m : Mm) (a x : Int) : Mm := { m with s := mSee m 4 a x 0, ws := mSet m (Mm.ok m a) a (IntKind.wrap .u64 (Mm.get m a + x)) }
def mClear (m : Mm) : Mm := { m with s := ac0 }
def chkC (c : Cf) : Int := chk c.a c.b c.c c.d c.e c.f c.g c.l
def adr (c : Cf) (k i : Int) : Int := atV c.a c.b c.c c.d c.e c.f c.g c.l k i 0
/-! ### what a step answers -/
structure SR where
  m : Mm
  x : Wk
  way : Int
  ok : Bool

abbrev w64' (x : Int) : Int := IntKind.wrap .i64 x
abbrev wU (x : Int) : Int := IntKind.wrap .u64 x

/-! ### layer 7 -/
def stepE (w : Int) (m : Mm) (x : Wk) : SR :=
  if x.line = 1 then ⟨mLoad m 0, { x with E := mLoadV m 0, line := 2 }, 0, true⟩
  else if x.line = 2 then ⟨mStore m (adr m.c 1 w) (pAnn x.E true), { x with line := 3 }, 0, true⟩
  else if x.line = 3 then
    bif mLoadV m 0 == x.E then ⟨mLoad m 0, { x with line := 0 }, 1, true⟩ else ⟨mLoad m 0, { x with E := mLoadV m 0, line := 2 }, 0, true⟩
  else if x.line = 70 then ⟨mLoad m 0, { x with V := mLoadV m 0, J := 0, line := 71 }, 0, true⟩
  else if x.line = 71 then
    bif mLoadV m (adr m.c 1 x.J) % 2 == 1 && !(mLoadV m (adr m.c 1 x.J) / 2 == x.V) then ⟨mLoad m (adr m.c 1 x.J), { x with line := 0 }, 2, true⟩
    else ⟨mLoad m (adr m.c 1 x.J), { x with J := w64' (x.J + 1), line := bif decide (m.c.a - 1 ≤ x.J) then 72 else 71 }, 0, true⟩
  else if x.line = 72 then ⟨mCas m 0 x.V (wU (x.V + 1)), { x with line := 0 }, bif mCasB m 0 x.V then 1 else 2, true⟩
  else if x.line = 90 then ⟨mStore m (adr m.c 1 w) (pAnn x.E false), { x with line := 0 }, 1, true⟩
  else ⟨m, x, 0, false⟩

/-! ### layer 6 -/
/-- The lines of one list: its head, its links' kind, the line of the first. -/
def stepL (head kind base put : Int) (m : Mm) (x : Wk) : SR :=
  if x.line = base then
    bif mLoadV m head % 4294967296 == 0 then ⟨mLoad m head, { x with V := mLoadV m head, H := mLoadV m head % 4294967296, line := 0 }, 2, true⟩
    else ⟨mLoad m head, { x with V := mLoadV m head, H := mLoadV m head % 4294967296, line := base + 1 }, 0, true⟩
  else if x.line = base + 1 then ⟨mLoad m (adr m.c kind (w64' (w64' x.H - 1))), { x with N := mLoadV m (adr m.c kind (w64' (w64' x.H - 1))), line := base + 2 }, 0, true⟩
  else if x.line = base + 2 then
    bif mCasB m head x.V then ⟨mCas m head x.V (pHead (x.N % 4294967296 - 1) (x.V / 4294967296 + 1)), { x with line := 0 }, 1, true⟩
    else ⟨mCas m head x.V (pHead (x.N % 4294967296 - 1) (x.V / 4294967296 + 1)), { x with line := base }, 0, true⟩
  else if x.line = base + 3 then ⟨mLoad m head, { x with V := mLoadV m head, line := base + 4 }, 0, true⟩
  else if x.line = base + 4 then ⟨mStore m (adr m.c kind put) (x.V % 4294967296), { x with line := base + 5 }, 0, true⟩
  else
    bif mCasB m head x.V then ⟨mCas m head x.V (pHead put (x.V / 4294967296 + 1)), { x with line := 0 }, 1, true⟩
    else ⟨mCas m head x.V (pHead put (x.V / 4294967296 + 1)), { x with line := base + 3 }, 0, true⟩

def stepS (m : Mm) (x : Wk) : SR :=
  if 10 ≤ x.line ∧ x.line ≤ 15 then stepL 1 5 10 (w64' (x.K - 1)) m x
  else if 20 ≤ x.line ∧ x.line ≤ 25 then stepL 2 4 20 (w64' (x.I - 1)) m x
  else ⟨m, x, 0, false⟩

/-! ### layer 8 -/
def readyV (w e : Int) : Bool := (w % 16 == 0) || ((w % 16 == 3) && (decide (2 ≤ e) && decide (w / 65536 ≤ e - 2)))
/-- The slab of a block. -/
def homeV (c : Cf) (b : Int) : Int := bif (chkC c == 0) && (decide (0 ≤ b) && decide (b < c.b * c.c)) then b / c.c else -1
def adrH (c : Cf) (k : Int) : Int := adr c 2 (homeV c (w64' (k - 1)))

def stepB (m : Mm) (x : Wk) : SR :=
  if x.line = 30 then
    bif wU (mLoadV m (adrH m.c x.K) + 16) / 16 % 4096 == m.c.c then ⟨mAdd m (adrH m.c x.K) 16, { x with line := 31 }, 0, true⟩
    else ⟨mAdd m (adrH m.c x.K) 16, { x with line := 0, K := 0 }, 1, true⟩
  else if x.line = 31 then ⟨mLoad m 0, { x with V := mLoadV m 0, line := 32 }, 0, true⟩
  else if x.line = 32 then ⟨mStore m (adrH m.c x.K) (pSlab 3 0 x.V), { x with line := 0, K := 0 }, 1, true⟩
  else if x.line = 33 then
    bif readyV (mLoadV m (adr m.c 2 x.J)) x.E then ⟨mLoad m (adr m.c 2 x.J), { x with V := mLoadV m (adr m.c 2 x.J), line := 34 }, 0, true⟩
    else bif decide (m.c.b - 1 ≤ x.J) then ⟨mLoad m (adr m.c 2 x.J), { x with V := mLoadV m (adr m.c 2 x.J), line := 0, J := w64' (x.J + 1) }, 2, true⟩
    else ⟨mLoad m (adr m.c 2 x.J), { x with V := mLoadV m (adr m.c 2 x.J), J := w64' (x.J + 1) }, 0, true⟩
  else if x.line = 34 then
    bif mCasB m (adr m.c 2 x.J) x.V then ⟨mCas m (adr m.c 2 x.J) x.V 1, { x with line := 0 }, 1, true⟩
    else ⟨mCas m (adr m.c 2 x.J) x.V 1, { x with line := 33 }, 0, true⟩
  else if x.line = 35 then ⟨mLoad m (adrH m.c x.B), { x with line := 0 }, bif mLoadV m (adrH m.c x.B) % 16 == 2 then 2 else 1, true⟩
  else if x.line = 36 then
    bif mLoadV m (adr m.c 2 x.slab) % 16 == 1 then ⟨mLoad m (adr m.c 2 x.slab), { x with V := mLoadV m (adr m.c 2 x.slab), line := 37 }, 0, true⟩
    else ⟨mLoad m (adr m.c 2 x.slab), { x with V := mLoadV m (adr m.c 2 x.slab), line := 0 }, 2, true⟩
  else if x.line = 37 then
    bif mCasB m (adr m.c 2 x.slab) x.V then ⟨mCas m (adr m.c 2 x.slab) x.V 2, { x with line := 0 }, 1, true⟩
    else ⟨mCas m (adr m.c 2 x.slab) x.V 2, { x with line := 36 }, 0, true⟩
  else if x.line = 39 then ⟨mLoad m (adrH m.c x.K), { x with line := 0 }, bif mLoadV m (adrH m.c x.K) % 16 == 2 then 2 else 1, true⟩
  else ⟨m, x, 0, false⟩

/-! ### layer 11 -/
def liveV (w g : Int) : Bool := (w % 16 == 1) && (w / 1048576 == g)
abbrev tE (t : Int) : Int := t % 65536 - 1
abbrev tG (t : Int) : Int := t / 65536
/-- A line that looks the ticket's entry up. -/
def lookN (m : Mm) (x : Wk) : SR :=
  bif liveV (mLoadV m (adr m.c 3 (tE x.T))) (tG x.T) then ⟨mLoad m (adr m.c 3 (tE x.T)), { x with line := 0, V := mLoadV m (adr m.c 3 (tE x.T)), C := mLoadV m (adr m.c 3 (tE x.T)) / 16 % 65536 }, 1, true⟩
  else ⟨mLoad m (adr m.c 3 (tE x.T)), { x with line := 0 }, 2, true⟩
def nextV (c : Cf) (t : Int) : Int := bif decide (c.l ≤ tG t) then pEntry (tG t) (-1) 2 else pEntry (tG t + 1) (-1) 0

def stepN (m : Mm) (x : Wk) : SR :=
  if 20 ≤ x.line ∧ x.line ≤ 25 then
    (let r := stepS m x
     bif r.way == 1 then (bif decide (x.line ≤ 22) then ⟨r.m, { r.x with I := w64' r.x.H, line := 40 }, 0, true⟩ else ⟨r.m, { r.x with I := 0 }, 1, true⟩) else ⟨r.m, r.x, r.way, true⟩)
  else if x.line = 40 then ⟨mLoad m (adr m.c 3 (w64' (x.I - 1))), { x with G := mLoadV m (adr m.c 3 (w64' (x.I - 1))) / 1048576, line := 41 }, 0, true⟩
  else if x.line = 41 then ⟨mStore m (adr m.c 3 (w64' (x.I - 1))) (pEntry x.G (w64' (x.B - 1)) 1), { x with T := pTicket (w64' (x.I - 1)) x.G, I := 0, B := 0, line := 0 }, 1, true⟩
  else if x.line = 42 ∨ x.line = 44 ∨ x.line = 46 ∨ x.line = 60 then lookN m x
  else if x.line = 43 then
    bif mCasB m (adr m.c 3 (tE x.T)) x.V then ⟨mCas m (adr m.c 3 (tE x.T)) x.V (nextV m.c x.T), { x with I := bif decide (m.c.l ≤ tG x.T) then 0 else x.T % 65536, line := 0 }, 1, true⟩
    else ⟨mCas m (adr m.c 3 (tE x.T)) x.V (nextV m.c x.T), { x with line := 42 }, 0, true⟩
  else if x.line = 45 then
    bif mCasB m (adr m.c 3 (tE x.T)) x.V then ⟨mCas m (adr m.c 3 (tE x.T)) x.V (pEntry (tG x.T) (w64' (x.B - 1)) 1), { x with B := 0, line := 0 }, 1, true⟩
    else ⟨mCas m (adr m.c 3 (tE x.T)) x.V (pEntry (tG x.T) (w64' (x.B - 1)) 1), { x with line := 44 }, 0, true⟩
  else ⟨m, x, 0, false⟩
end Go.Sx.Pr

namespace Go.Sx.Pr
open Go Go.Sx Go.Proofs
set_option maxRecDepth 100000
/-- coatcheck/pack.Unhead -/
def C118 : CF := ⟨1, [(2, none), (3, none)],
 .seq (.reg false [⟨some 2, .mv (.c (.d (.v (.int .i64 0)))), none, 0⟩,
   ⟨some 3, .mv (.c (.d (.v (.int .u64 0)))), none, 0⟩])
 (.seq (.reg false [⟨some 4, .mv (.t 0), none, 0⟩,
   ⟨some 5, .conv .u32 (.t 4), none, 0⟩,
   ⟨some 6, .conv .i64 (.t 5), none, 0⟩,
   ⟨some 7, .bin .sub (.t 6) (.c (.d (.v (.int .i64 1)))), none, 0⟩,
   ⟨some 8, .mv (.t 0), none, 0⟩,
   ⟨some 9, .bin .shr (.t 8) (.c (.d (.v (.int .u64 32)))), none, 0⟩,
   ⟨some 2, .mv (.t 7), none, 0⟩,
   ⟨some 3, .mv (.t 9), none, 0⟩])
 (.ret))⟩
theorem c118 : coF Tryz.prog Tryz.f139 = some C118 := by kernel_rfl
def A118 : Ann := { keep := [0, 2, 3], live := [] }
def E118 {Ω : Type} : Env Ω := enil
theorem e118 : GoodE Tryz.prog E118 := GoodE.nil
/-- coatcheck/pack.Announce -/
def C121 : CF := ⟨2, [(4, none)],
 .seq (.reg false [⟨some 4, .mv (.c (.d (.v (.int .u64 0)))), none, 0⟩])
 (.seq (.seq (.reg false [⟨some 5, .mv (.t 1), none, 0⟩])
 (.cond 5 (.seq (.reg false [⟨some 6, .mv (.t 0), none, 0⟩,
     ⟨some 7, .bin .shl (.t 6) (.c (.d (.v (.int .u64 1)))), none, 0⟩,
     ⟨some 8, .bin .or (.t 7) (.c (.d (.v (.int .u64 1)))), none, 0⟩,
     ⟨some 4, .mv (.t 8), none, 0⟩])
   (.ret))
   (.skip)))
 (.seq (.reg false [⟨some 9, .mv (.t 0), none, 0⟩,
   ⟨some 10, .bin .shl (.t 9) (.c (.d (.v (.int .u64 1)))), none, 0⟩,
   ⟨some 4, .mv (.t 10), none, 0⟩])
 (.ret)))⟩
theorem c121 : coF Tryz.prog Tryz.f124 = some C121 := by kernel_rfl
def A121 : Ann := { keep := [0, 1, 4, 5], live := [] }
def E121 {Ω : Type} : Env Ω := enil
theorem e121 : GoodE Tryz.prog E121 := GoodE.nil
/-- coatcheck/pack.Unannounce -/
def C87 : CF := ⟨1, [(2, none), (3, none)],
 .seq (.reg false [⟨some 2, .mv (.c (.d (.v (.int .u64 0)))), none, 0⟩,
   ⟨some 3, .mv (.c (.d (.v (.bool false)))), none, 0⟩])
 (.seq (.reg false [⟨some 4, .mv (.t 0), none, 0⟩,
   ⟨some 5, .bin .shr (.t 4) (.c (.d (.v (.int .u64 1)))), none, 0⟩,
   ⟨some 6, .mv (.t 0), none, 0⟩,
   ⟨some 7, .bin .and (.t 6) (.c (.d (.v (.int .u64 1)))), none, 0⟩,
   ⟨some 8, .eq .int false (.t 7) (.c (.d (.v (.int .u64 1)))), none, 0⟩,
   ⟨some 2, .mv (.t 5), none, 0⟩,
   ⟨some 3, .mv (.t 8), none, 0⟩])
 (.ret))⟩
theorem c87 : coF Tryz.prog Tryz.f92 = some C87 := by kernel_rfl
def A87 : Ann := { keep := [0, 2, 3], live := [] }
def E87 {Ω : Type} : Env Ω := enil
theorem e87 : GoodE Tryz.prog E87 := GoodE.nil
/-- coatcheck/pack.Slab -/
def C97 : CF := ⟨3, [(6, none)],
 .seq (.reg false [⟨some 6, .mv (.c (.d (.v (.int .u64 0)))), none, 0⟩])
 (.seq (.reg false [⟨some 7, .mv (.t 2), none, 0⟩,
   ⟨some 8, .bin .shl (.t 7) (.c (.d (.v (.int .u64 16)))), none, 0⟩,
   ⟨some 9, .mv (.t 1), none, 0⟩,
   ⟨some 10, .conv .u16 (.t 9), none, 0⟩,
   ⟨some 11, .bin .shl (.t 10) (.c (.d (.v (.int .u64 4)))), none, 0⟩,
   ⟨some 12, .conv .u64 (.t 11), none, 0⟩,
   ⟨some 13, .bin .or (.t 8) (.t 12), none, 0⟩,
   ⟨some 14, .mv (.t 0), none, 0⟩,
   ⟨some 15, .conv .u8 (.t 14), none, 0⟩,
   ⟨some 16, .bin .shl (.t 15) (.c (.d (.v (.int .u64 4)))), none, 0⟩,
   ⟨some 17, .bin .shr (.t 16) (.c (.d (.v (.int .u64 4)))), none, 0⟩,
   ⟨some 18, .conv .u64 (.t 17), none, 0⟩,
   ⟨some 19, .bin .or (.t 13) (.t 18), none, 0⟩,
   ⟨some 6, .mv (.t 19), none, 0⟩])
 (.ret))⟩
theorem c97 : coF Tryz.prog Tryz.f102 = some C97 := by kernel_rfl
def A97 : Ann := { keep := [0, 1, 2, 6], live := [] }
def E97 {Ω : Type} : Env Ω := enil
theorem e97 : GoodE Tryz.prog E97 := GoodE.nil
/-- coatcheck/pack.Unslab -/
def C94 : CF := ⟨1, [(2, none), (3, none), (4, none)],
 .seq (.reg false [⟨some 2, .mv (.c (.d (.v (.int .i64 0)))), none, 0⟩,
   ⟨some 3, .mv (.c (.d (.v (.int .i64 0)))), none, 0⟩,
   ⟨some 4, .mv (.c (.d (.v (.int .u64 0)))), none, 0⟩])
 (.seq (.reg false [⟨some 5, .mv (.t 0), none, 0⟩,
   ⟨some 6, .conv .u8 (.t 5), none, 0⟩,
   ⟨some 7, .bin .shl (.t 6) (.c (.d (.v (.int .u64 4)))), none, 0⟩,
   ⟨some 8, .bin .shr (.t 7) (.c (.d (.v (.int .u64 4)))), none, 0⟩,
   ⟨some 9, .conv .i64 (.t 8), none, 0⟩,
   ⟨some 10, .mv (.t 0), none, 0⟩,
   ⟨some 11, .conv .u16 (.t 10), none, 0⟩,
   ⟨some 12, .bin .shr (.t 11) (.c (.d (.v (.int .u64 4)))), none, 0⟩,
   ⟨some 13, .conv .i64 (.t 12), none, 0⟩,
   ⟨some 14, .mv (.t 0), none, 0⟩,
   ⟨some 15, .bin .shr (.t 14) (.c (.d (.v (.int .u64 16)))), none, 0⟩,
   ⟨some 2, .mv (.t 9), none, 0⟩,
   ⟨some 3, .mv (.t 13), none, 0⟩,
   ⟨some 4, .mv (.t 15), none, 0⟩])
 (.ret))⟩
theorem c94 : coF Tryz.prog Tryz.f98 = some C94 := by kernel_rfl
def A94 : Ann := { keep := [0, 2, 3, 4], live := [] }
def E94 {Ω : Type} : Env Ω := enil
theorem e94 : GoodE Tryz.prog E94 := GoodE.nil
end Go.Sx.Pr
