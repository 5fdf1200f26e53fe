/- Contract: the number of words. -/
import Derived.Test.YtpnnnklahanecaaP41
namespace Go.Sx.Pr
open Go Go.Sx Go.Proofs
set_option maxRecDepth 100000

/-- The number of words of a valid configuration, else 0. -/
def szZ (a b c d e f g l : Int) : Int := bif chk a b c d e f g l == 0 then (sizeN a.toNat b.toNat c.toNat d.toNat e.toNat : Int) else 0

theorem r64 {Ω : Type} (it : Itr Ω) (K : SV → SH → Option Ω) (a b c d e f g l : Int) :
    sxFnI it E64 A64 C64 [cfgS a b c d e f g l] [] K =
    br (!chk a b c d e f g l == 0) (K (I 0) [.cells 49 [I a, I b, I c, I d, I e, I f, I g, U l]]) (br (!chk a b c d e f g l == 0) (K (I (IntKind.wrap .i64 (IntKind.wrap .i64 (IntKind.wrap .i64 (IntKind.wrap .i64 (3 + a) + b) + IntKind.wrap .i64 (2 * e)) + IntKind.wrap .i64 (0 * IntKind.wrap .i64 (1 + d))))) [.cells 49 [I a, I b, I c, I d, I e, I f, I g, U l]]) (K (I (IntKind.wrap .i64 (IntKind.wrap .i64 (IntKind.wrap .i64 (IntKind.wrap .i64 (3 + a) + b) + IntKind.wrap .i64 (2 * e)) + IntKind.wrap .i64 (IntKind.wrap .i64 (b * c) * IntKind.wrap .i64 (1 + d))))) [.cells 49 [I a, I b, I c, I d, I e, I f, I g, U l]])) := by kernel_rfl

theorem v64 {Ω : Type} (K : SV → SH → Option Ω) (a b c d e f g l : Int) : sxFn E64 A64 C64 [cfgS a b c d e f g l] [] K = K (I (szZ a b c d e f g l)) [.cells 49 [I a, I b, I c, I d, I e, I f, I g, U l]] := by
  rw [← sxFnI_eq, r64]
  unfold szZ
  by_cases h : chk a b c d e f g l = 0
  · have h0 : (chk a b c d e f g l == 0) = true := by simp [h]
    rw [h0]
    simp only [br, Bool.not_true, cond_false, cond_true]
    obtain ⟨⟨a1, a2⟩, ⟨b1, b2⟩, ⟨c1, c2⟩, ⟨g1, g2⟩, ⟨e1, e2⟩, _⟩ := chk_zero h
    obtain ⟨A, rfl⟩ := Int.eq_ofNat_of_zero_le (show 0 ≤ a by omega)
    obtain ⟨Bn, rfl⟩ := Int.eq_ofNat_of_zero_le (show 0 ≤ b by omega)
    obtain ⟨Cn, rfl⟩ := Int.eq_ofNat_of_zero_le (show 0 ≤ c by omega)
    obtain ⟨Dn, rfl⟩ := Int.eq_ofNat_of_zero_le (show 0 ≤ d by omega)
    obtain ⟨En, rfl⟩ := Int.eq_ofNat_of_zero_le (show 0 ≤ e by omega)
    have hBC : Bn * Cn ≤ 8 * 16 := Nat.mul_le_mul (by omega) (by omega)
    have hP : (Bn * Cn) * (1 + Dn) ≤ 128 * 5 := Nat.mul_le_mul (by omega) (by omega)
    have e1 : IntKind.wrap .i64 ((Bn : Int) * Cn) = ((Bn * Cn : Nat) : Int) := by rw [← Int.natCast_mul, w64] <;> omega
    have e2 : IntKind.wrap .i64 (1 + (Dn : Int)) = ((1 + Dn : Nat) : Int) := by rw [w64] <;> omega
    have e3 : IntKind.wrap .i64 (((Bn * Cn : Nat) : Int) * ((1 + Dn : Nat) : Int)) = ((Bn * Cn * (1 + Dn) : Nat) : Int) := by rw [← Int.natCast_mul, w64] <;> omega
    rw [e1, e2, e3]
    have e4 : IntKind.wrap .i64 (3 + (A : Int)) = 3 + A := by rw [w64] <;> omega
    have e5 : IntKind.wrap .i64 (3 + (A : Int) + Bn) = 3 + A + Bn := by rw [w64] <;> omega
    have e6 : IntKind.wrap .i64 (2 * (En : Int)) = 2 * En := by rw [w64] <;> omega
    have e7 : IntKind.wrap .i64 (3 + (A : Int) + Bn + 2 * En) = 3 + A + Bn + 2 * En := by rw [w64] <;> omega
    have e8 : IntKind.wrap .i64 (3 + (A : Int) + Bn + 2 * En + ((Bn * Cn * (1 + Dn) : Nat) : Int)) = 3 + A + Bn + 2 * En + ((Bn * Cn * (1 + Dn) : Nat) : Int) := by rw [w64] <;> omega
    rw [e4, e5, e6, e7, e8]
    simp only [Int.toNat_natCast, sizeN]
    have e9 : (1 + Dn) * (Bn * Cn) = Bn * Cn * (1 + Dn) := Nat.mul_comm _ _
    rw [e9]
    congr 4
    omega
  · have h0 : (chk a b c d e f g l == 0) = false := by simp [h]
    rw [h0]
    simp only [br, Bool.not_false, cond_true, cond_false]

def FSize : List (List Int) → Option (Bool × SV × SH)
  | [[a, b, c, d, e, f, g, l]] => some (true, I (szZ a b c d e f g l), [])
  | _ => none
def S64 {Ω : Type} : Spec Ω := conSpec [.g cfgK] FSize
theorem g64 : Good1 Try.prog 64 S64 := conGood Try.func64 (by kernel_rfl) c64 e64 mix (A := A64) fun l r hr hl hF => by
  obtain ⟨x, rfl, hx⟩ := lenAs_one hl
  obtain ⟨a, b, c, d, e, f, g, i, rfl⟩ := eight hx
  simp only [FSize, Option.some.injEq, Prod.mk.injEq, true_and] at hF
  obtain ⟨rfl, rfl⟩ := hF
  exact ⟨trivial, trivial, _, trim_none rfl _, v64 _ a b c d e f g i⟩
end Go.Sx.Pr
