/- Contract: the layout's list, each word's place written out. -/
import Derived.Test.YtpnnnklahanecaaM2
namespace Go.Sx.Pr
open Go Go.Sx Go.Proofs
set_option maxRecDepth 100000

theorem blt_t {a b : Nat} (h : a < b) : Nat.blt a b = true := Nat.ble_eq_true_of_le h
theorem blt_f {a b : Nat} (h : b ≤ a) : Nat.blt a b = false := by
  cases e : Nat.blt a b with
  | false => rfl
  | true => have := Nat.le_of_ble_eq_true e; omega

theorem acc_lo {q : Nat → Nat → DV} {m0 w : Nat} {ds : Nat → List DV} : ∀ {n i j : Nat}, i < m0 → acc 3 q m0 w ds n i j = q i j
  | 0, _, _, _ => rfl
  | n + 1, i, j, h => by
    have : i < m0 + w * n := by omega
    simp only [acc, catF]
    rw [blt_t this, cond_true]
    exact acc_lo h

theorem acc_hi {q : Nat → Nat → DV} {m0 w : Nat} {ds : Nat → List DV} (hw : 0 < w) : ∀ {n i j : Nat}, m0 ≤ i → i < m0 + w * n → acc 3 q m0 w ds n i j = lkD (ds ((i - m0) / w)) (((i - m0) % w) * 3 + j)
  | 0, i, _, h1, h2 => by omega
  | n + 1, i, j, h1, h2 => by
    simp only [acc, catF]
    rcases Nat.lt_or_ge i (m0 + w * n) with h | h
    · rw [blt_t h, cond_true]; exact acc_hi hw h1 h
    · rw [blt_f h, cond_false]
      have h3 : w * (n + 1) = w * n + w := Nat.mul_succ _ _
      have e : i - m0 = w * n + (i - (m0 + w * n)) := by omega
      have hr : i - (m0 + w * n) < w := by omega
      rw [e, Nat.mul_add_div hw, Nat.mul_add_mod, Nat.div_eq_of_lt hr, Nat.mod_eq_of_lt hr, Nat.add_zero]

theorem blk_lo {D : Nat} {q : Nat → Nat → DV} {m0 : Nat} : ∀ {n i j : Nat}, i < m0 → blkA D q m0 n i j = q i j
  | 0, _, _, _ => rfl
  | n + 1, i, j, h => by
    simp only [blkA]
    rw [acc_lo (by omega)]
    simp only [catF]
    rw [blt_t (by omega), cond_true]
    exact blk_lo h

theorem blk_hi {D : Nat} {q : Nat → Nat → DV} {m0 : Nat} : ∀ {n i j : Nat}, m0 ≤ i → i < m0 + (1 + D) * n →
    blkA D q m0 n i j = if (i - m0) % (1 + D) = 0 then lkD [dI 5, dI ((i - m0) / (1 + D) : Nat), dI 0] j else lkD (d6 ((i - m0) / (1 + D) : Nat) ((i - m0) % (1 + D) - 1)) j
  | 0, i, _, h1, h2 => by omega
  | n + 1, i, j, h1, h2 => by
    have h3 : (1 + D) * (n + 1) = (1 + D) * n + (1 + D) := Nat.mul_succ _ _
    simp only [blkA]
    rcases Nat.lt_or_ge i (m0 + (1 + D) * n) with h | h
    · rw [acc_lo (by omega)]
      simp only [catF]
      rw [blt_t h, cond_true]
      exact blk_hi h1 h
    · have e : i - m0 = (1 + D) * n + (i - (m0 + (1 + D) * n)) := by omega
      have hr : i - (m0 + (1 + D) * n) < 1 + D := by omega
      rw [e, Nat.mul_add_div (by omega), Nat.mul_add_mod, Nat.div_eq_of_lt hr, Nat.mod_eq_of_lt hr, Nat.add_zero]
      rcases Nat.eq_or_lt_of_le h with h4 | h4
      · subst h4
        rw [acc_lo (by omega)]
        simp only [catF]
        rw [blt_f (Nat.le_refl _), cond_false, Nat.sub_self, if_pos rfl]
        simp only [ap, Nat.zero_mul, Nat.zero_add]
        rfl
      · rw [acc_hi (by omega) (by omega) (by omega), if_neg (by omega)]
        have e2 : (i - (m0 + (1 + D) * n + 1)) / 1 = i - (m0 + (1 + D) * n) - 1 := by rw [Nat.div_one]; omega
        have e3 : (i - (m0 + (1 + D) * n + 1)) % 1 = 0 := Nat.mod_one _
        rw [e2, e3, Nat.zero_mul, Nat.zero_add]
        rfl

/-- What word i is. -/
def spotL (A Bn D E i : Nat) : List Int :=
  if i < 3 then [0, i, 0] else if i < 3 + A then [1, (i - 3 : Nat), 0] else if i < 3 + A + Bn then [2, (i - (3 + A) : Nat), 0]
  else if i < 3 + A + Bn + 2 * E then [(if (i - (3 + A + Bn)) % 2 = 0 then 3 else 4), ((i - (3 + A + Bn)) / 2 : Nat), 0]
  else if (i - (3 + A + Bn + 2 * E)) % (1 + D) = 0 then [5, ((i - (3 + A + Bn + 2 * E)) / (1 + D) : Nat), 0] else [6, ((i - (3 + A + Bn + 2 * E)) / (1 + D) : Nat), ((i - (3 + A + Bn + 2 * E)) % (1 + D) - 1 : Nat)]
def spot (A Bn D E i j : Nat) : Int := (spotL A Bn D E i).getD j 0

theorem qAll_spot {A Bn Cn D E i j : Nat} (hi : i < sizeN A Bn Cn D E) (hj : j < 3) : qAll A Bn Cn D E i j = .v (.int .i64 (spot A Bn D E i j)) := by
  unfold qAll spot spotL
  unfold sizeN at hi
  simp only [Nat.one_mul] at *
  split
  · rename_i h
    rw [blk_lo (by omega), acc_lo (by omega), acc_lo (by omega), acc_lo (by omega)]
    match i, h, j, hj with
    | 0, _, 0, _ | 0, _, 1, _ | 0, _, 2, _ | 1, _, 0, _ | 1, _, 1, _ | 1, _, 2, _ | 2, _, 0, _ | 2, _, 1, _ | 2, _, 2, _ => rfl
  · split
    · rw [blk_lo (by omega), acc_lo (by omega), acc_lo (by omega), acc_hi (by omega) (by omega) (by omega), Nat.div_one, Nat.mod_one, Nat.zero_mul, Nat.zero_add]
      match j, hj with
      | 0, _ | 1, _ | 2, _ => rfl
    · split
      · rw [blk_lo (by omega), acc_lo (by omega), acc_hi (by omega) (by omega) (by omega), Nat.div_one, Nat.mod_one, Nat.zero_mul, Nat.zero_add]
        match j, hj with
        | 0, _ | 1, _ | 2, _ => rfl
      · split
        · rw [blk_lo (by omega), acc_hi (by omega) (by omega) (by omega)]
          rcases Nat.mod_two_eq_zero_or_one (i - (3 + A + Bn)) with h | h
          · rw [h, if_pos rfl]
            match j, hj with
            | 0, _ | 1, _ | 2, _ => rfl
          · rw [h, if_neg (by omega)]
            match j, hj with
            | 0, _ | 1, _ | 2, _ => rfl
        · rw [blk_hi (by omega) (by omega)]
          split
          · match j, hj with
            | 0, _ | 1, _ | 2, _ => rfl
          · match j, hj with
            | 0, _ | 1, _ | 2, _ => rfl

def FAllN : List (List Int) → List (Bool × SV × SH)
  | [[a, b, c, d, e, f, g, l]] => [(chk a b c d e f g l == 0, .own 3, [.dead, .dead, .dead, .row 105 3 (sizeN a.toNat b.toNat c.toNat d.toNat e.toNat) (fun i j => .v (.int .i64 (spot a.toNat b.toNat d.toNat e.toNat i j)))])]
  | _ => []
def S20n {Ω : Type} : Spec Ω := conSpecL [.g cfgK] FAllN
theorem g20n : Good1 Try.prog 20 S20n := conGoodL Try.func20 (by kernel_rfl) c20 e20 mix (A := A20) fun L r hr hl hF => by
  obtain ⟨x, rfl, hx⟩ := lenAs_one hl
  obtain ⟨a, b, c, d, e, f, g, i, rfl⟩ := eight hx
  simp only [FAllN, firstAlt] at hF
  cases h : (chk a b c d e f g i == 0) with
  | false => rw [h] at hF; cases hF
  | true =>
    rw [h] at hF
    simp only [cond_true, Option.some.injEq, Prod.mk.injEq] at hF
    obtain ⟨rfl, rfl⟩ := hF
    exact ⟨trivial, ⟨trivial, trivial, trivial, fun _ _ => ⟨_, rfl⟩, trivial⟩, [.dead, .dead, .dead, .row 105 3 (sizeN a.toNat b.toNat c.toNat d.toNat e.toNat) (qAll a.toNat b.toNat c.toNat d.toNat e.toNat)], _,
      ⟨.inl rfl, .inl rfl, .inl rfl, .inr ⟨_, _, _, _, _, rfl, rfl, fun i hi j hj => qAll_spot hi hj⟩, trivial⟩, by kernel_rfl, v20 _ (by simpa using h)⟩
end Go.Sx.Pr
