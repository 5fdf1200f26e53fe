/- Words put together of fields, and taken apart. -/
import Derived.Test.YtljmncdlehinnaaSxLoop
set_option linter.unusedVariables false
set_option linter.unusedSimpArgs false
namespace Go.Sx

theorem bor_add {a b : Int} {n : Nat} (ha : 0 ≤ a) (ha2 : a < 18446744073709551616) (hd : a % (2 ^ n : Nat) = 0) (hb : 0 ≤ b) (hb2 : b < (2 ^ n : Nat)) (hs : a + b < 18446744073709551616) : bor .u64 a b = a + b := by
  obtain ⟨A, rfl⟩ := Int.eq_ofNat_of_zero_le ha
  obtain ⟨B, rfl⟩ := Int.eq_ofNat_of_zero_le hb
  have hA : A % 2 ^ n = 0 := by exact_mod_cast hd
  have hB : B < 2 ^ n := by exact_mod_cast hb2
  unfold bor
  rw [show IntKind.bits .u64 = 64 from rfl, BitVec.toNat_or, BitVec.toNat_ofInt, BitVec.toNat_ofInt]
  have e1 : (((A : Int) % ((2 ^ 64 : Nat) : Int)).toNat) = A := by omega
  have e2 : (((B : Int) % ((2 ^ 64 : Nat) : Int)).toNat) = B := by omega
  rw [e1, e2]
  have e3 : A ||| B = A + B := by
    have h := Nat.shiftLeft_add_eq_or_of_lt hB (A / 2 ^ n)
    rw [Nat.shiftLeft_eq, Nat.div_mul_cancel (Nat.dvd_of_mod_eq_zero hA)] at h
    exact h.symm
  rw [e3, IntKind.wrap_u64]
  omega

theorem pow2_pos (n : Nat) : (0 : Int) < 2 ^ n := by
  have : (0 : Nat) < 2 ^ n := Nat.pos_of_ne_zero (by simp)
  exact_mod_cast this

theorem shr_div {k : IntKind} {a : Int} {n : Nat} (h : n ≤ k.bits) : shr k a (n : Int) = a / 2 ^ n := by
  unfold shr
  rw [show min ((n : Int).toNat) k.bits = n by simp; omega]
  rw [Int.fdiv_eq_ediv_of_nonneg _ (Int.le_of_lt (pow2_pos n))]

theorem shl_mul {k : IntKind} {a : Int} {n : Nat} (h : n ≤ k.bits) : shl k a (n : Int) = k.wrap (a * 2 ^ n) := by
  unfold shl
  rw [show min ((n : Int).toNat) k.bits = n by simp; omega]

/-! ### the packed words -/
def pHead (p v : Int) : Int := v % 4294967296 * 4294967296 + (p + 1) % 4294967296
def pEntry (g b s : Int) : Int := g % 17592186044416 * 1048576 + ((b + 1) % 65536 * 16 + s % 16)
def pAnn (e : Int) (a : Bool) : Int := e % 9223372036854775808 * 2 + bif a then 1 else 0
def pSlab (s p t : Int) : Int := t % 281474976710656 * 65536 + (p % 4096 * 16 + s % 16)
def pTicket (e g : Int) : Int := g % 281474976710656 * 65536 + (e + 1) % 65536
end Go.Sx
