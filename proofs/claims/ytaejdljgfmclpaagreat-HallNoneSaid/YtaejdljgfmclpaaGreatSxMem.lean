/- Contracts: the plan's addresses are the document's. -/
import Derived.Test.YtaejdljgfmclpaaGreatN5
import Derived.Test.YtaejdljgfmclpaaGreatM4
import Derived.Test.YtaejdljgfmclpaaGreatSxArg
import Derived.Test.YtaejdljgfmclpaaGreatM4
set_option linter.all false
set_option linter.unusedVariables false
set_option linter.unusedSimpArgs false
set_option linter.unnecessarySimpa false
namespace Go.Sx.Pr
open Go Go.Sx Go.Proofs
set_option maxRecDepth 100000

theorem u88 {Ω : Type} (it : Itr Ω) (K : SV → SH → Option Ω) (a b c d e f g l i : Int) :
    sxFnI it E88 A88 C88 [cfgS a b c d e f g l, I i] [] K =
    br (decide (i < 0)) (K (I (-1)) [.cells 87 [I a, I b, I c, I d, I e, I f, I g, U l]]) (br (decide (i ≥ a)) (K (I (-1)) [.cells 87 [I a, I b, I c, I d, I e, I f, I g, U l]]) (br (!chk a b c d e f g l == 0) (K (I (-1)) [.cells 87 [I a, I b, I c, I d, I e, I f, I g, U l]]) (K (I (IntKind.wrap .i64 (3 + IntKind.wrap .i64 (i * 1)))) [.cells 87 [I a, I b, I c, I d, I e, I f, I g, U l]]))) := by kernel_rfl
theorem u95 {Ω : Type} (it : Itr Ω) (K : SV → SH → Option Ω) (a b c d e f g l i : Int) :
    sxFnI it E95 A95 C95 [cfgS a b c d e f g l, I i] [] K =
    br (decide (i < 0)) (K (I (-1)) [.cells 87 [I a, I b, I c, I d, I e, I f, I g, U l]]) (br (decide (i ≥ b)) (K (I (-1)) [.cells 87 [I a, I b, I c, I d, I e, I f, I g, U l]]) (br (!chk a b c d e f g l == 0) (K (I (-1)) [.cells 87 [I a, I b, I c, I d, I e, I f, I g, U l]]) (K (I (IntKind.wrap .i64 (IntKind.wrap .i64 (3 + a) + IntKind.wrap .i64 (i * 1)))) [.cells 87 [I a, I b, I c, I d, I e, I f, I g, U l]]))) := by kernel_rfl
theorem u111 {Ω : Type} (it : Itr Ω) (K : SV → SH → Option Ω) (a b c d e f g l i : Int) :
    sxFnI it E111 A111 C111 [cfgS a b c d e f g l, I i] [] K =
    br (decide (i < 0)) (K (I (-1)) [.cells 87 [I a, I b, I c, I d, I e, I f, I g, U l]]) (br (decide (i ≥ e)) (K (I (-1)) [.cells 87 [I a, I b, I c, I d, I e, I f, I g, U l]]) (br (!chk a b c d e f g l == 0) (K (I (-1)) [.cells 87 [I a, I b, I c, I d, I e, I f, I g, U l]]) (K (I (IntKind.wrap .i64 (IntKind.wrap .i64 (IntKind.wrap .i64 (3 + a) + b) + IntKind.wrap .i64 (i * 2)))) [.cells 87 [I a, I b, I c, I d, I e, I f, I g, U l]]))) := by kernel_rfl
theorem u112 {Ω : Type} (it : Itr Ω) (K : SV → SH → Option Ω) (a b c d e f g l i : Int) :
    sxFnI it E112 A112 C112 [cfgS a b c d e f g l, I i] [] K =
    br (decide (i < 0)) (K (I (-1)) [.cells 87 [I a, I b, I c, I d, I e, I f, I g, U l]]) (br (decide (i ≥ e)) (K (I (-1)) [.cells 87 [I a, I b, I c, I d, I e, I f, I g, U l]]) (br (!chk a b c d e f g l == 0) (K (I (-1)) [.cells 87 [I a, I b, I c, I d, I e, I f, I g, U l]]) (K (I (IntKind.wrap .i64 (IntKind.wrap .i64 (IntKind.wrap .i64 (IntKind.wrap .i64 (3 + a) + b) + 1) + IntKind.wrap .i64 (i * 2)))) [.cells 87 [I a, I b, I c, I d, I e, I f, I g, U l]]))) := by kernel_rfl
theorem u117 {Ω : Type} (it : Itr Ω) (K : SV → SH → Option Ω) (a b c d e f g l i : Int) :
    sxFnI it E117 A117 C117 [cfgS a b c d e f g l, I i] [] K =
    br (!chk a b c d e f g l == 0) (br (decide (i < 0)) (K (I (-1)) [.cells 87 [I a, I b, I c, I d, I e, I f, I g, U l]]) (br (decide (i ≥ 0)) (K (I (-1)) [.cells 87 [I a, I b, I c, I d, I e, I f, I g, U l]]) (br (!chk a b c d e f g l == 0) (K (I (-1)) [.cells 87 [I a, I b, I c, I d, I e, I f, I g, U l]]) (K (I (IntKind.wrap .i64 (IntKind.wrap .i64 (IntKind.wrap .i64 (IntKind.wrap .i64 (3 + a) + b) + IntKind.wrap .i64 (2 * e)) + IntKind.wrap .i64 (i * IntKind.wrap .i64 (1 + d))))) [.cells 87 [I a, I b, I c, I d, I e, I f, I g, U l]])))) (br (decide (i < 0)) (K (I (-1)) [.cells 87 [I a, I b, I c, I d, I e, I f, I g, U l]]) (br (decide (i ≥ IntKind.wrap .i64 (b * c))) (K (I (-1)) [.cells 87 [I a, I b, I c, I d, I e, I f, I g, U l]]) (br (!chk a b c d e f g l == 0) (K (I (-1)) [.cells 87 [I a, I b, I c, I d, I e, I f, I g, U l]]) (K (I (IntKind.wrap .i64 (IntKind.wrap .i64 (IntKind.wrap .i64 (IntKind.wrap .i64 (3 + a) + b) + IntKind.wrap .i64 (2 * e)) + IntKind.wrap .i64 (i * IntKind.wrap .i64 (1 + d))))) [.cells 87 [I a, I b, I c, I d, I e, I f, I g, U l]])))) := by kernel_rfl

theorem atV_bad {a b c d e f g l k x y : Int} (h : ¬ chk a b c d e f g l = 0) : atV a b c d e f g l k x y = -1 := by
  unfold atV
  rw [show (chk a b c d e f g l == 0) = false by simp [h], cond_false]

abbrev H49 (a b c d e f g l : Int) : SH := [.cells 87 [I a, I b, I c, I d, I e, I f, I g, U l]]
section
variable {Ω : Type} (K : SV → SH → Option Ω) (a b c d e f g l i : Int)
theorem x88 : sxFn E88 A88 C88 [cfgS a b c d e f g l, I i] [] K = K (I (atV a b c d e f g l 1 i 0)) (H49 a b c d e f g l) := by
  rw [← sxFnI_eq, u88]
  by_cases hc : chk a b c d e f g l = 0
  · rw [at1 hc]
    obtain ⟨⟨a1, a2⟩, ⟨b1, b2⟩, ⟨c1, c2⟩, ⟨d1, d2⟩, ⟨e1, e2⟩, _⟩ := chk_zero hc
    by_cases h1 : i < 0
    · rw [decide_eq_true h1, br_t, if_neg (by omega)]
    · rw [decide_eq_false h1, br_f]
      by_cases h2 : i ≥ a
      · rw [decide_eq_true h2, br_t, if_neg (by omega)]
      · have hv : IntKind.wrap .i64 (3 + IntKind.wrap .i64 (i * 1)) = 3 + i := by rw [w64 (x := i * 1) (by omega) (by omega), w64 (by omega) (by omega)]; omega
        rw [decide_eq_false h2, br_f, show (!chk a b c d e f g l == 0) = false by simp [hc], br_f, hv, if_pos (by omega)]
  · rw [atV_bad hc, show (!chk a b c d e f g l == 0) = true by simp [hc], br_t]
    cases decide (i < 0) <;> cases decide (i ≥ a) <;> simp only [br_t, br_f]
theorem x95 : sxFn E95 A95 C95 [cfgS a b c d e f g l, I i] [] K = K (I (atV a b c d e f g l 2 i 0)) (H49 a b c d e f g l) := by
  rw [← sxFnI_eq, u95]
  by_cases hc : chk a b c d e f g l = 0
  · rw [at2 hc]
    obtain ⟨⟨a1, a2⟩, ⟨b1, b2⟩, ⟨c1, c2⟩, ⟨d1, d2⟩, ⟨e1, e2⟩, _⟩ := chk_zero hc
    by_cases h1 : i < 0
    · rw [decide_eq_true h1, br_t, if_neg (by omega)]
    · rw [decide_eq_false h1, br_f]
      by_cases h2 : i ≥ b
      · rw [decide_eq_true h2, br_t, if_neg (by omega)]
      · have hv : IntKind.wrap .i64 (IntKind.wrap .i64 (3 + a) + IntKind.wrap .i64 (i * 1)) = 3 + a + i := by rw [w64 (x := 3 + a) (by omega) (by omega), w64 (x := i * 1) (by omega) (by omega), w64 (by omega) (by omega)]; omega
        rw [decide_eq_false h2, br_f, show (!chk a b c d e f g l == 0) = false by simp [hc], br_f, hv, if_pos (by omega)]
  · rw [atV_bad hc, show (!chk a b c d e f g l == 0) = true by simp [hc], br_t]
    cases decide (i < 0) <;> cases decide (i ≥ b) <;> simp only [br_t, br_f]
theorem x111 : sxFn E111 A111 C111 [cfgS a b c d e f g l, I i] [] K = K (I (atV a b c d e f g l 3 i 0)) (H49 a b c d e f g l) := by
  rw [← sxFnI_eq, u111]
  by_cases hc : chk a b c d e f g l = 0
  · rw [at3 hc]
    obtain ⟨⟨a1, a2⟩, ⟨b1, b2⟩, ⟨c1, c2⟩, ⟨d1, d2⟩, ⟨e1, e2⟩, _⟩ := chk_zero hc
    by_cases h1 : i < 0
    · rw [decide_eq_true h1, br_t, if_neg (by omega)]
    · rw [decide_eq_false h1, br_f]
      by_cases h2 : i ≥ e
      · rw [decide_eq_true h2, br_t, if_neg (by omega)]
      · have hv : IntKind.wrap .i64 (IntKind.wrap .i64 (IntKind.wrap .i64 (3 + a) + b) + IntKind.wrap .i64 (i * 2)) = 3 + a + b + 2 * i := by rw [w64 (x := 3 + a) (by omega) (by omega), w64 (x := 3 + a + b) (by omega) (by omega), w64 (x := i * 2) (by omega) (by omega), w64 (by omega) (by omega)]; omega
        rw [decide_eq_false h2, br_f, show (!chk a b c d e f g l == 0) = false by simp [hc], br_f, hv, if_pos (by omega)]
  · rw [atV_bad hc, show (!chk a b c d e f g l == 0) = true by simp [hc], br_t]
    cases decide (i < 0) <;> cases decide (i ≥ e) <;> simp only [br_t, br_f]
theorem x112 : sxFn E112 A112 C112 [cfgS a b c d e f g l, I i] [] K = K (I (atV a b c d e f g l 4 i 0)) (H49 a b c d e f g l) := by
  rw [← sxFnI_eq, u112]
  by_cases hc : chk a b c d e f g l = 0
  · rw [at4 hc]
    obtain ⟨⟨a1, a2⟩, ⟨b1, b2⟩, ⟨c1, c2⟩, ⟨d1, d2⟩, ⟨e1, e2⟩, _⟩ := chk_zero hc
    by_cases h1 : i < 0
    · rw [decide_eq_true h1, br_t, if_neg (by omega)]
    · rw [decide_eq_false h1, br_f]
      by_cases h2 : i ≥ e
      · rw [decide_eq_true h2, br_t, if_neg (by omega)]
      · have hv : IntKind.wrap .i64 (IntKind.wrap .i64 (IntKind.wrap .i64 (IntKind.wrap .i64 (3 + a) + b) + 1) + IntKind.wrap .i64 (i * 2)) = 3 + a + b + 2 * i + 1 := by rw [w64 (x := 3 + a) (by omega) (by omega), w64 (x := 3 + a + b) (by omega) (by omega), w64 (x := 3 + a + b + 1) (by omega) (by omega), w64 (x := i * 2) (by omega) (by omega), w64 (by omega) (by omega)]; omega
        rw [decide_eq_false h2, br_f, show (!chk a b c d e f g l == 0) = false by simp [hc], br_f, hv, if_pos (by omega)]
  · rw [atV_bad hc, show (!chk a b c d e f g l == 0) = true by simp [hc], br_t]
    cases decide (i < 0) <;> cases decide (i ≥ e) <;> simp only [br_t, br_f]
theorem x117 : sxFn E117 A117 C117 [cfgS a b c d e f g l, I i] [] K = K (I (atV a b c d e f g l 5 i 0)) (H49 a b c d e f g l) := by
  rw [← sxFnI_eq, u117]
  by_cases hc : chk a b c d e f g l = 0
  · rw [at5 hc, show (!chk a b c d e f g l == 0) = false by simp [hc], br_f, br_f]
    obtain ⟨⟨a1, a2⟩, ⟨b1, b2⟩, ⟨c1, c2⟩, ⟨d1, d2⟩, ⟨e1, e2⟩, _⟩ := chk_zero hc
    have hbc : 0 ≤ b * c ∧ b * c ≤ 128 := by
      obtain ⟨Bn, rfl⟩ := Int.eq_ofNat_of_zero_le (show 0 ≤ b by omega)
      obtain ⟨Cn, rfl⟩ := Int.eq_ofNat_of_zero_le (show 0 ≤ c by omega)
      have hBC : Bn * Cn ≤ 8 * 16 := Nat.mul_le_mul (by omega) (by omega)
      rw [← Int.natCast_mul]; omega
    rw [w64 (x := b * c) (by omega) (by omega)]
    by_cases h1 : i < 0
    · rw [decide_eq_true h1, br_t, if_neg (by omega)]
    · rw [decide_eq_false h1, br_f]
      by_cases h2 : i ≥ b * c
      · rw [decide_eq_true h2, br_t, if_neg (by omega)]
      · have hi : 0 ≤ (1 + d) * i ∧ (1 + d) * i ≤ 5 * 128 := by
          obtain ⟨D, rfl⟩ := Int.eq_ofNat_of_zero_le (show 0 ≤ d by omega)
          obtain ⟨n, rfl⟩ := Int.eq_ofNat_of_zero_le (show 0 ≤ i by omega)
          have hP : (1 + D) * n ≤ 5 * 128 := Nat.mul_le_mul (by omega) (by omega)
          have e0 : (1 + (D : Int)) * (n : Int) = (((1 + D) * n : Nat) : Int) := by push_cast; rfl
          rw [e0]; omega
        rw [decide_eq_false h2, br_f, w64 (x := 3 + a) (by omega) (by omega), w64 (x := 3 + a + b) (by omega) (by omega), w64 (x := 2 * e) (by omega) (by omega), w64 (x := 3 + a + b + 2 * e) (by omega) (by omega),
          w64 (x := 1 + d) (by omega) (by omega), Int.mul_comm i (1 + d), w64 (x := (1 + d) * i) (by omega) (by omega), w64 (by omega) (by omega), if_pos (by omega)]
  · rw [atV_bad hc, show (!chk a b c d e f g l == 0) = true by simp [hc], br_t]
    cases decide (i < 0) <;> cases decide (i ≥ 0) <;> simp only [br_t, br_f]
end

/-- An address of one kind. -/
def FAd (k : Int) : List (List Int) → Option (Bool × SV × SH)
  | [[a, b, c, d, e, f, g, l], [i]] => some (true, I (atV a b c d e f g l k i 0), [])
  | _ => none
theorem one_of {α : Type} {l : List α} (h : l.length = 1) : ∃ a, l = [a] := by
  match l, h with
  | [a], _ => exact ⟨a, rfl⟩
def S88 {Ω : Type} : Spec Ω := conSpec [.g cfgK, .i .i64] (FAd 1)
theorem g88 : Good1 Tryz.prog 119 S88 := conGood Tryz.func119 (by kernel_rfl) c88 e88 mix (A := A88) fun L r hr hl hF => by
  obtain ⟨p, q, rfl, hp, s, q2, rfl, hs, hq⟩ := hl
  simp only [lenAs] at hq
  subst hq
  obtain ⟨a, b, c, d, e, f, g, l, rfl⟩ := eight hp
  obtain ⟨i, rfl⟩ := one_of hs
  simp only [FAd, Option.some.injEq, Prod.mk.injEq, true_and] at hF
  obtain ⟨rfl, rfl⟩ := hF
  exact ⟨trivial, trivial, _, trim_none rfl _, x88 _ a b c d e f g l i⟩
def S95 {Ω : Type} : Spec Ω := conSpec [.g cfgK, .i .i64] (FAd 2)
theorem g95 : Good1 Tryz.prog 126 S95 := conGood Tryz.func126 (by kernel_rfl) c95 e95 mix (A := A95) fun L r hr hl hF => by
  obtain ⟨p, q, rfl, hp, s, q2, rfl, hs, hq⟩ := hl
  simp only [lenAs] at hq
  subst hq
  obtain ⟨a, b, c, d, e, f, g, l, rfl⟩ := eight hp
  obtain ⟨i, rfl⟩ := one_of hs
  simp only [FAd, Option.some.injEq, Prod.mk.injEq, true_and] at hF
  obtain ⟨rfl, rfl⟩ := hF
  exact ⟨trivial, trivial, _, trim_none rfl _, x95 _ a b c d e f g l i⟩
def S111c {Ω : Type} : Spec Ω := conSpec [.g cfgK, .i .i64] (FAd 3)
theorem g111c : Good1 Tryz.prog 71 S111c := conGood Tryz.func71 (by kernel_rfl) c111 e111 mix (A := A111) fun L r hr hl hF => by
  obtain ⟨p, q, rfl, hp, s, q2, rfl, hs, hq⟩ := hl
  simp only [lenAs] at hq
  subst hq
  obtain ⟨a, b, c, d, e, f, g, l, rfl⟩ := eight hp
  obtain ⟨i, rfl⟩ := one_of hs
  simp only [FAd, Option.some.injEq, Prod.mk.injEq, true_and] at hF
  obtain ⟨rfl, rfl⟩ := hF
  exact ⟨trivial, trivial, _, trim_none rfl _, x111 _ a b c d e f g l i⟩
def S112c {Ω : Type} : Spec Ω := conSpec [.g cfgK, .i .i64] (FAd 4)
theorem g112c : Good1 Tryz.prog 72 S112c := conGood Tryz.func72 (by kernel_rfl) c112 e112 mix (A := A112) fun L r hr hl hF => by
  obtain ⟨p, q, rfl, hp, s, q2, rfl, hs, hq⟩ := hl
  simp only [lenAs] at hq
  subst hq
  obtain ⟨a, b, c, d, e, f, g, l, rfl⟩ := eight hp
  obtain ⟨i, rfl⟩ := one_of hs
  simp only [FAd, Option.some.injEq, Prod.mk.injEq, true_and] at hF
  obtain ⟨rfl, rfl⟩ := hF
  exact ⟨trivial, trivial, _, trim_none rfl _, x112 _ a b c d e f g l i⟩
def S117 {Ω : Type} : Spec Ω := conSpec [.g cfgK, .i .i64] (FAd 5)
theorem g117 : Good1 Tryz.prog 113 S117 := conGood Tryz.func113 (by kernel_rfl) c117 e117 mix (A := A117) fun L r hr hl hF => by
  obtain ⟨p, q, rfl, hp, s, q2, rfl, hs, hq⟩ := hl
  simp only [lenAs] at hq
  subst hq
  obtain ⟨a, b, c, d, e, f, g, l, rfl⟩ := eight hp
  obtain ⟨i, rfl⟩ := one_of hs
  simp only [FAd, Option.some.injEq, Prod.mk.injEq, true_and] at hF
  obtain ⟨rfl, rfl⟩ := hF
  exact ⟨trivial, trivial, _, trim_none rfl _, x117 _ a b c d e f g l i⟩
end Go.Sx.Pr

/- Contracts: the document's Low and power. -/
namespace Go.Sx.Pr
open Go Go.Sx Go.Proofs
set_option maxRecDepth 100000

theorem one_of' {α : Type} {l : List α} (h : l.length = 1) : ∃ a, l = [a] := by
  match l, h with
  | [a], _ => exact ⟨a, rfl⟩
end Go.Sx.Pr

/- Arguments whose cells are integers, booleans and slices of integers: structs and arrays of such. -/
namespace Go.Sx

/-- What a cell holds. -/
inductive CT where
  | i (k : IntKind)
  | b
  | s (k : IntKind)

def tyC : DV → CT → Prop
  | x, .i k => ∃ n, x = .v (.int k n) ∧ (Lit.int k n).wf = true
  | x, .b => ∃ n, x = .v (.bool n)
  | x, .s k => ∃ xs : List Int, x = .ints k xs ∧ ∀ n ∈ xs, (Lit.int k n).wf = true

def Typ : List DV → List CT → Prop
  | [], [] => True
  | x :: r, c :: cs => tyC x c ∧ Typ r cs
  | _, _ => False

theorem Typ.append : ∀ {l l' : List DV} {a b : List CT}, Typ l a → Typ l' b → Typ (l ++ l') (a ++ b)
  | [], _, [], _, _, h => h
  | _ :: _, _, _ :: _, _, h, h' => ⟨h.1, Typ.append h.2 h'⟩
  | [], _, _ :: _, _, h, _ => h.elim
  | _ :: _, _, [], _, h, _ => h.elim

theorem Typ.split {l : List DV} {n : Nat} {a b : List CT} (h : Typ (l.take n) a) (h' : Typ (l.drop n) b) : Typ l (a ++ b) := by
  have := Typ.append h h'
  rwa [List.take_append_drop] at this

def getB : DV → Bool
  | .v (.bool x) => x
  | _ => false
def getS : DV → List Int
  | .ints _ l => l
  | _ => []

/-- Cells by the numbers, truths and lists that they hold. -/
def cellsD : List CT → Nat → (Nat → Int) → (Nat → Bool) → (Nat → List Int) → List DV
  | [], _, _, _, _ => []
  | .i k :: r, j, iv, bv, sv => .v (.int k (iv j)) :: cellsD r (j + 1) iv bv sv
  | .b :: r, j, iv, bv, sv => .v (.bool (bv j)) :: cellsD r (j + 1) iv bv sv
  | .s k :: r, j, iv, bv, sv => .ints k (sv j) :: cellsD r (j + 1) iv bv sv

end Go.Sx

/- Contracts with memory: a function that is given locs, known by what it answers and by what it leaves in them. -/
namespace Go.Sx

/-! ### locs under other names -/
 mutual
def ren (f : Nat → Nat) : SV → SV
  | .ptr l o => .ptr (f l) o
  | .pe l i o => .pe (f l) i o
  | .own l => .own (f l)
  | .cs l o sz m c => .cs (f l) o sz m c
  | .mp l => .mp (f l)
  | .fn g a b => .fn g (renL f a) (renL f b)
  | .agg c => .agg (renL f c)
  | .tup c => .tup (renL f c)
  | .md ks c => .md ks (renL f c)
  | .rc c o => .rc (renL f c) o
  | .d x => .d x
  | .rp sz g o => .rp sz g o
  | .top => .top
def renL (f : Nat → Nat) : List SV → List SV
  | [] => []
  | x :: r => ren f x :: renL f r
end

def renE (f : Nat → Nat) : List (Value × SV) → List (Value × SV)
  | [] => []
  | (q, x) :: r => (q, ren f x) :: renE f r

def renO (f : Nat → Nat) : SO → SO
  | .cells t c => .cells t (renL f c)
  | .maps es => .maps (renE f es)
  | o => o

def renH (f : Nat → Nat) : SH → SH
  | [] => []
  | o :: r => renO f o :: renH f r

def idx (l : Nat) : List Nat → Nat → Option Nat
  | [], _ => none
  | x :: r, i => bif Nat.beq x l then some i else idx l r (i + 1)

def onI (o : Option Nat) (f : Nat → SV) : Option SV := match o with | some i => some (f i) | none => none

 mutual
def unr (ls : List Nat) : SV → Option SV
  | .ptr l o => onI (idx l ls 0) fun l => .ptr l o
  | .pe l i o => onI (idx l ls 0) fun l => .pe l i o
  | .own l => onI (idx l ls 0) fun l => .own l
  | .cs l o sz m c => onI (idx l ls 0) fun l => .cs l o sz m c
  | .mp l => onI (idx l ls 0) fun l => .mp l
  | .fn g a b => match unrL ls a, unrL ls b with
    | some a', some b' => some (.fn g a' b')
    | _, _ => none
  | .agg c => match unrL ls c with | some c' => some (.agg c') | none => none
  | .tup c => match unrL ls c with | some c' => some (.tup c') | none => none
  | .md ks c => match unrL ls c with | some c' => some (.md ks c') | none => none
  | .rc c o => match unrL ls c with | some c' => some (.rc c' o) | none => none
  | .d x => some (.d x)
  | .rp sz g o => some (.rp sz g o)
  | .top => some .top
def unrL (ls : List Nat) : List SV → Option (List SV)
  | [] => some []
  | x :: r => match unr ls x, unrL ls r with
    | some y, some s => some (y :: s)
    | _, _ => none
end

def unrO (ls : List Nat) : SO → Option SO
  | .cells t c => match unrL ls c with | some c' => some (.cells t c') | none => none
  | .maps _ => none
  | o => some o

def unrH (ls : List Nat) (h : SH) : List Nat → Option SH
  | [] => some []
  | l :: r => match unrO ls (hget h l), unrH ls h r with
    | some o, some s => some (o :: s)
    | _, _ => none

/-- The caller's name of a loc. -/
def locC (ls : List Nat) (n : Nat) (i : Nat) : Nat := bif Nat.blt i ls.length then ls.getD i 0 else n + (i - ls.length)

/-- All apart, all below n. -/
def okLs (n : Nat) : List Nat → Bool
  | [] => true
  | l :: r => Nat.blt l n && (!(nmem l r) && okLs n r)

def setLs (h : SH) : List Nat → SH → SH
  | l :: ls, o :: os => setLs (h.set l o) ls os
  | _, _ => h

/-! ### data cells: nil lists as empty lists -/
def nrmC : List CT → List SV → Option (List SV)
  | [], [] => some []
  | c :: cs, x :: r => match nrmC cs r with
    | none => none
    | some l => match c, x with
      | .i k, .d (.v (.int k' n)) => bif kEq k k' then some (.d (.v (.int k n)) :: l) else none
      | .b, .d (.v (.bool n)) => some (.d (.v (.bool n)) :: l)
      | .s k, .d (.ints k' n) => bif kEq k k' then some (.d (.ints k n) :: l) else none
      | .s k, .d (.v (.slice none 0 0)) => some (.d (.ints k []) :: l)
      | .s k, .d (.v (.slice (some _) 0 _)) => some (.d (.ints k []) :: l)
      | _, _ => none
  | _, _ => none

/-- Arguments: as they are, or structs of data cells. -/
def nrmA (ls : List Nat) : List (Option (List CT)) → List SV → Option (List SV)
  | [], [] => some []
  | t :: ts, x :: r => match nrmA ls ts r with
    | none => none
    | some l => match t, x with
      | none, x => match unr ls x with | some y => some (y :: l) | none => none
      | some cs, .agg c => match nrmC cs c with | some c' => some (.agg c' :: l) | none => none
      | _, _ => none
  | _, _ => none

/-- One outcome of several: guard, result, objects. -/
abbrev Alt := Bool × SV × SH

def altsM {Ω : Type} (ls sc : List Nat) (k : SV → List Nat → List Nat → SH → Option Ω) (h : SH) : List Alt → Option Ω
  | [] => none
  | (g, r, h1) :: rest => br g (bif Nat.ble ls.length h1.length then k (ren (locC ls h.length) r) ls sc (setLs h ls (renH (locC ls h.length) h1) ++ (renH (locC ls h.length) h1).drop ls.length) else none) (altsM ls sc k h rest)

/-- A function by what it does to the locs that find names. ap: which of them it may move. -/
def memSpec (ts : List (Option (List CT))) (find : SH → List SV → Option (List Nat)) (ap : List Nat) (F : List SV → SH → List Alt) {Ω : Type} : Spec Ω := fun args h k =>
  match find h args with
  | none => none
  | some ls => match nrmA ls ts args, unrH ls h ls with
    | some a0, some h0 => bif okLs h.length ls && aside ls (ap.map fun i => ls.getD i 0) 0 h then altsM ls (ap.map fun i => ls.getD i 0) k h (F a0 h0) else none
    | _, _ => none

/-! ### what they say -/
theorem blt_lt {a b : Nat} (h : Nat.blt a b = true) : a < b := Nat.le_of_ble_eq_true h

theorem idx_some {l : Nat} : ∀ {ls : List Nat} {j i : Nat}, idx l ls j = some i → j ≤ i ∧ i - j < ls.length ∧ ls.getD (i - j) 0 = l
  | [], _, _, h => by cases h
  | x :: r, j, i, h => by
    simp only [idx] at h
    cases hb : Nat.beq x l with
    | true =>
      rw [hb] at h
      simp only [cond_true, Option.some.injEq] at h
      subst h
      simp [nbeq.1 hb]
    | false =>
      rw [hb] at h
      obtain ⟨h1, h2, h3⟩ := idx_some h
      refine ⟨by omega, by simp only [List.length_cons]; omega, ?_⟩
      rw [show i - j = (i - (j + 1)) + 1 by omega, List.getD_cons_succ]
      exact h3

theorem idx_none {l : Nat} : ∀ {ls : List Nat} {j : Nat}, idx l ls j = none ↔ nmem l ls = false
  | [], _ => by simp [idx, nmem]
  | x :: r, j => by
    simp only [idx, nmem]
    cases hb : Nat.beq x l with
    | true => simp
    | false => simp only [cond_false]; exact idx_none

theorem okLs_lt {n : Nat} : ∀ {ls : List Nat} {i : Nat}, okLs n ls = true → i < ls.length → ls.getD i 0 < n
  | [], _, _, hi => by simp at hi
  | l :: r, 0, h, _ => by
    simp only [okLs, Bool.and_eq_true] at h
    simpa using blt_lt h.1
  | l :: r, i + 1, h, hi => by
    simp only [okLs, Bool.and_eq_true] at h
    rw [List.getD_cons_succ]
    exact okLs_lt h.2.2 (by simpa using hi)

theorem getD_nmem : ∀ {ls : List Nat} {i : Nat}, i < ls.length → nmem (ls.getD i 0) ls = true
  | [], _, h => by simp at h
  | x :: r, 0, _ => by simp [nmem]
  | x :: r, i + 1, h => by
    rw [List.getD_cons_succ]
    simp only [nmem]
    cases Nat.beq x (r.getD i 0) with
    | true => rfl
    | false => simp only [cond_false]; exact getD_nmem (by simpa using h)

theorem idx_get {n : Nat} : ∀ {ls : List Nat} {i j : Nat}, okLs n ls = true → i < ls.length → idx (ls.getD i 0) ls j = some (j + i)
  | [], _, _, _, hi => by simp at hi
  | l :: r, 0, j, h, _ => by simp [idx]
  | l :: r, i + 1, j, h, hi => by
    simp only [okLs, Bool.and_eq_true, Bool.not_eq_true'] at h
    rw [List.getD_cons_succ]
    have h2 : Nat.beq l (r.getD i 0) = false := by
      cases hb : Nat.beq l (r.getD i 0) with
      | false => rfl
      | true =>
        have := nbeq.1 hb
        have hm := getD_nmem (ls := r) (i := i) (by simpa using hi)
        rw [← this, h.2.1] at hm; cases hm
    simp only [idx, h2, cond_false]
    rw [idx_get h.2.2 (by simpa using hi)]
    simp; omega

/-- Two contexts where locs mean the same under other names. -/
structure Rn (f : Nat → Nat) (cx cx' : Cx) : Prop where
  fz : ∀ b, cx.fz b → cx'.fz b
  loc : ∀ i, i < cx.n → f i < cx'.n ∧ cx'.th (f i) = cx.th i ∧ cx'.ln (f i) = cx.ln i ∧ cx'.cp (f i) = cx.cp i ∧ cx'.nl (f i) = cx.nl i ∧ cx'.rs (f i) = cx.rs i

section
variable {f : Nat → Nat} {cx cx' : Cx} {w : World}
 mutual
theorem SRep.ren (g : Rn f cx cx') : ∀ (x : SV) (u : Value), SRep cx w x u → SRep cx' w (Sx.ren f x) u
  | .d x, u, h => by simp only [SRep, Sx.ren] at h ⊢; exact DRep.mono g.fz (fun _ _ => rfl) x u h
  | .ptr l o, u, h => by
      simp only [SRep, Sx.ren] at h ⊢
      obtain ⟨h1, h2, _⟩ := g.loc l h.1
      exact ⟨h1, by rw [h2]; exact h.2⟩
  | .pe l i o, u, h => by
      simp only [SRep, Sx.ren] at h ⊢
      obtain ⟨h1, h2, h3, h4, h5, h6⟩ := g.loc l h.1
      rw [h2, h3, h5, h6]; exact ⟨h1, h.2⟩
  | .rp sz q o, u, h => by
      simp only [SRep, Sx.ren] at h ⊢
      obtain ⟨b, o', e, hb, hj⟩ := h
      refine ⟨b, o', e, g.fz b hb, fun j hl => ?_⟩
      obtain ⟨x, hx, hr⟩ := hj j hl
      exact ⟨x, hx, DRep.mono g.fz (fun _ _ => rfl) _ _ hr⟩
  | .own l, u, h => by
      simp only [SRep, Sx.ren] at h ⊢
      obtain ⟨h1, h2, h3, h4, h5, h6⟩ := g.loc l h.1
      rw [h2, h3, h4, h5]; exact ⟨h1, h.2⟩
  | .cs l o sz n c, u, h => by
      simp only [SRep, Sx.ren] at h ⊢
      obtain ⟨h1, h2, _⟩ := g.loc l h.1
      rw [h2]; exact ⟨h1, h.2⟩
  | .mp l, u, h => by
      simp only [SRep, Sx.ren] at h ⊢
      obtain ⟨h1, h2, _⟩ := g.loc l h.1
      rw [h2]; exact ⟨h1, h.2⟩
  | .fn q a b, u, h => by
      simp only [SRep, Sx.ren] at h ⊢
      obtain ⟨a', b', e, ha, hb⟩ := h
      exact ⟨a', b', e, SRepL.ren g a a' ha, SRepL.ren g b b' hb⟩
  | .agg c, u, h => by
      simp only [SRep, Sx.ren] at h ⊢
      obtain ⟨c', e, hc⟩ := h
      exact ⟨c', e, SRepL.ren g c c' hc⟩
  | .tup c, u, h => by
      simp only [SRep, Sx.ren] at h ⊢
      obtain ⟨c', e, hc⟩ := h
      exact ⟨c', e, SRepL.ren g c c' hc⟩
  | .md ks c, u, h => by
      simp only [SRep, Sx.ren] at h ⊢
      obtain ⟨b, e, c', vs, eu, hb, hw, hl, hk, hc⟩ := h
      exact ⟨b, e, c', vs, eu, g.fz b hb, hw, hl, hk, SRepL.ren g c vs hc⟩
  | .rc c o, u, h => by
      simp only [SRep, Sx.ren] at h ⊢
      obtain ⟨b, vs, eu, hb, hw, hc⟩ := h
      exact ⟨b, vs, eu, g.fz b hb, hw, SRepL.ren g c vs hc⟩
  | .top, u, _ => by simp only [SRep, Sx.ren]
theorem SRepL.ren (g : Rn f cx cx') : ∀ (c : List SV) (c' : List Value), SRepL cx w c c' → SRepL cx' w (renL f c) c'
  | [], [], _ => by simp only [SRepL, renL]
  | x :: r, v :: vs, h => by
      simp only [SRepL, renL] at h ⊢
      exact ⟨SRep.ren g x v h.1, SRepL.ren g r vs h.2⟩
  | [], _ :: _, h => by simp [SRepL] at h
  | _ :: _, [], h => by simp [SRepL] at h
end

theorem SRepE.ren (g : Rn f cx cx') : ∀ (c : List (Value × SV)) (c' : List (Value × Value)), SRepE cx w c c' → SRepE cx' w (renE f c) c'
  | [], [], _ => by simp only [SRepE, renE]
  | (q, x) :: r, (q', v) :: vs, h => by
      simp only [SRepE, renE] at h ⊢
      exact ⟨h.1, SRep.ren g x v h.2.1, SRepE.ren g r vs h.2.2⟩
  | [], _ :: _, h => by simp [SRepE] at h
  | _ :: _, [], h => by simp [SRepE] at h

theorem ORep.ren (g : Rn f cx cx') {i : Nat} (hi : i < cx.n) : ∀ (o : SO), ORep cx w i o → ORep cx' w (f i) (renO f o) := by
  obtain ⟨h1, h2, h3, h4, h5, h6⟩ := g.loc i hi
  intro o h
  cases o with
  | dead => trivial
  | cells t c =>
    obtain ⟨t', c', k1, k2⟩ := h
    exact ⟨t', c', by rw [h2]; exact k1, SRepL.ren g c c' k2⟩
  | rowi t k xs =>
    simp only [ORep, renO] at h ⊢
    rw [h2, h3, h4, h5, h6]; exact h
  | row t sz n q =>
    simp only [ORep, renO] at h ⊢
    rw [h2, h3, h4, h5, h6]
    refine ⟨h.1, h.2.1, h.2.2.1, h.2.2.2.1, fun hn => ?_⟩
    obtain ⟨t', c', k1, k2, k3⟩ := h.2.2.2.2 hn
    refine ⟨t', c', k1, k2, fun i hi j hj => ?_⟩
    obtain ⟨x, hx, hr⟩ := k3 i hi j hj
    exact ⟨x, hx, DRep.mono g.fz (fun _ _ => rfl) _ _ hr⟩
  | mapi k es => simp only [ORep, renO] at h ⊢; rw [h2]; exact h
  | mapb es => simp only [ORep, renO] at h ⊢; rw [h2]; exact h
  | maps es =>
    obtain ⟨e, c, k1, k2⟩ := h
    exact ⟨e, c, by rw [h2]; exact k1, SRepE.ren g es _ k2⟩
end

theorem renH_length {f : Nat → Nat} : ∀ {h : SH}, (renH f h).length = h.length
  | [] => rfl
  | o :: r => by simp [renH, renH_length (h := r)]
theorem renH_get {f : Nat → Nat} : ∀ {h : SH} {l : Nat}, hget (renH f h) l = renO f (hget h l)
  | [], l => by simp [renH, hget, renO]
  | o :: r, 0 => by simp [renH, hget]
  | o :: r, l + 1 => by
    have := @renH_get f r l
    simpa [renH, hget] using this
theorem renO_liv {f : Nat → Nat} {cx cx' : Cx} {h h' : SH} {i l : Nat} (he : hget h' l = renO f (hget h i)) (hn : cx'.nl l = cx.nl i) (hl : liv cx' h' l) : liv cx h i := by
  unfold liv at hl ⊢
  rw [he] at hl
  cases ho : hget h i <;> rw [ho] at hl <;> simp only [renO] at hl ⊢
  · rw [← hn]; exact hl
  · rw [← hn]; exact hl

theorem hget_drop {h : SH} {n l : Nat} : hget (h.drop n) l = hget h (n + l) := by
  simp [hget, List.getD_eq_getElem?_getD]

theorem setLs_length : ∀ {ls : List Nat} {h os : SH}, (setLs h ls os).length = h.length
  | [], h, os => by simp [setLs]
  | l :: ls, h, [] => by simp [setLs]
  | l :: ls, h, o :: os => by simp [setLs, setLs_length (ls := ls)]

theorem setLs_get {n : Nat} : ∀ {ls : List Nat} {h os : SH} {l : Nat}, okLs n ls = true → n = h.length → ls.length ≤ os.length → hget (setLs h ls os) l = match idx l ls 0 with | some i => hget os i | none => hget h l
  | [], h, os, l, _, _, _ => by simp [setLs, idx]
  | x :: ls, h, [], l, _, _, hlen => by simp at hlen
  | x :: ls, h, o :: os, l, hok, hn, hlen => by
    have hok' := hok
    simp only [okLs, Bool.and_eq_true, Bool.not_eq_true'] at hok'
    have hx : x < h.length := hn ▸ blt_lt hok'.1
    have ih := setLs_get (n := n) (ls := ls) (h := h.set x o) (os := os) (l := l) hok'.2.2 (by simpa using hn) (by simpa using hlen)
    simp only [setLs]
    rw [ih]
    have shift : ∀ (r : List Nat) (j : Nat), idx l r (j + 1) = (idx l r j).map (· + 1) := by
      intro r
      induction r with
      | nil => intro j; rfl
      | cons y r ihr =>
        intro j
        simp only [idx]
        cases Nat.beq y l with
        | true => rfl
        | false => simp only [cond_false]; exact ihr (j + 1)
    simp only [idx]
    cases hb : Nat.beq x l with
    | true =>
      have e := nbeq.1 hb
      subst e
      have h1 : idx x ls 0 = none := idx_none.2 hok'.2.1
      rw [h1]
      simp only [cond_true]
      rw [hget_set_eq hx]
      simp [hget]
    | false =>
      simp only [cond_false, Nat.zero_add]
      rw [shift ls 0]
      cases h2 : idx l ls 0 with
      | some i => simp [hget]
      | none =>
        simp only [Option.map_none]
        exact hget_set_ne fun e => by subst e; simp at hb

section
variable {cx : Cx} {h : SH} {w : World} {ls : List Nat}

/-- The callee's context: the locs lent, by their places; the others a frame. -/
def cxM (cx : Cx) (h : SH) (ls : List Nat) : Cx where
  n := ls.length
  th := fun i => cx.th (ls.getD i 0)
  ln := fun i => cx.ln (ls.getD i 0)
  cp := fun i => cx.cp (ls.getD i 0)
  nl := fun i => cx.nl (ls.getD i 0)
  rs := fun i => cx.rs (ls.getD i 0)
  fz := cx.fz
  fr := fun b => cx.fr b ∨ ∃ l, nmem l ls = false ∧ liv cx h l ∧ b = cx.th l

theorem onI_some {o : Option Nat} {q : Nat → SV} {y : SV} (e : onI o q = some y) : ∃ i, o = some i ∧ y = q i := by
  cases o with
  | none => cases e
  | some i => simp only [onI, Option.some.injEq] at e; exact ⟨i, rfl, e.symm⟩

 mutual
theorem SRep.unr : ∀ (x y : SV) (u : Value), Sx.unr ls x = some y → SRep cx w x u → SRep (cxM cx h ls) w y u
  | .d x, y, u, e, hr => by simp only [Sx.unr, Option.some.injEq] at e; subst e; simp only [SRep] at hr ⊢; exact hr
  | .rp sz g o, y, u, e, hr => by simp only [Sx.unr, Option.some.injEq] at e; subst e; simp only [SRep] at hr ⊢; exact hr
  | .top, y, u, e, _ => by simp only [Sx.unr, Option.some.injEq] at e; subst e; simp only [SRep]
  | .ptr l o, y, u, e, hr => by
      simp only [Sx.unr] at e
      obtain ⟨i, h1, rfl⟩ := onI_some e
      obtain ⟨_, h2, h3⟩ := idx_some h1
      simp only [SRep, cxM, Nat.sub_zero] at hr h2 h3 ⊢
      rw [h3]; exact ⟨h2, hr.2⟩
  | .pe l j o, y, u, e, hr => by
      simp only [Sx.unr] at e
      obtain ⟨i, h1, rfl⟩ := onI_some e
      obtain ⟨_, h2, h3⟩ := idx_some h1
      simp only [SRep, cxM, Nat.sub_zero] at hr h2 h3 ⊢
      rw [h3]; exact ⟨h2, hr.2⟩
  | .own l, y, u, e, hr => by
      simp only [Sx.unr] at e
      obtain ⟨i, h1, rfl⟩ := onI_some e
      obtain ⟨_, h2, h3⟩ := idx_some h1
      simp only [SRep, cxM, Nat.sub_zero] at hr h2 h3 ⊢
      rw [h3]; exact ⟨h2, hr.2⟩
  | .cs l o sz n c, y, u, e, hr => by
      simp only [Sx.unr] at e
      obtain ⟨i, h1, rfl⟩ := onI_some e
      obtain ⟨_, h2, h3⟩ := idx_some h1
      simp only [SRep, cxM, Nat.sub_zero] at hr h2 h3 ⊢
      rw [h3]; exact ⟨h2, hr.2⟩
  | .mp l, y, u, e, hr => by
      simp only [Sx.unr] at e
      obtain ⟨i, h1, rfl⟩ := onI_some e
      obtain ⟨_, h2, h3⟩ := idx_some h1
      simp only [SRep, cxM, Nat.sub_zero] at hr h2 h3 ⊢
      rw [h3]; exact ⟨h2, hr.2⟩
  | .fn g a b, y, u, e, hr => by
      simp only [Sx.unr] at e
      split at e
      · rename_i a' b' ha hb
        simp only [Option.some.injEq] at e; subst e
        simp only [SRep] at hr ⊢
        obtain ⟨p, q, e, h1, h2⟩ := hr
        exact ⟨p, q, e, SRepL.unr a a' p ha h1, SRepL.unr b b' q hb h2⟩
      · cases e
  | .agg c, y, u, e, hr => by
      simp only [Sx.unr] at e
      split at e
      · rename_i c' hc
        simp only [Option.some.injEq] at e; subst e
        simp only [SRep] at hr ⊢
        obtain ⟨p, e, h1⟩ := hr
        exact ⟨p, e, SRepL.unr c c' p hc h1⟩
      · cases e
  | .tup c, y, u, e, hr => by
      simp only [Sx.unr] at e
      split at e
      · rename_i c' hc
        simp only [Option.some.injEq] at e; subst e
        simp only [SRep] at hr ⊢
        obtain ⟨p, e, h1⟩ := hr
        exact ⟨p, e, SRepL.unr c c' p hc h1⟩
      · cases e
  | .md ks c, y, u, e, hr => by
      simp only [Sx.unr] at e
      split at e
      · rename_i c' hc
        simp only [Option.some.injEq] at e; subst e
        simp only [SRep] at hr ⊢
        obtain ⟨b, e, q, vs, eu, hb, hw, hl, hk, h1⟩ := hr
        exact ⟨b, e, q, vs, eu, hb, hw, hl, hk, SRepL.unr c c' vs hc h1⟩
      · cases e
  | .rc c o, y, u, e, hr => by
      simp only [Sx.unr] at e
      split at e
      · rename_i c' hc
        simp only [Option.some.injEq] at e; subst e
        simp only [SRep] at hr ⊢
        obtain ⟨b, vs, eu, hb, hw, h1⟩ := hr
        exact ⟨b, vs, eu, hb, hw, SRepL.unr c c' vs hc h1⟩
      · cases e
theorem SRepL.unr : ∀ (x y : List SV) (u : List Value), unrL ls x = some y → SRepL cx w x u → SRepL (cxM cx h ls) w y u
  | [], y, u, e, hr => by
      simp only [unrL, Option.some.injEq] at e; subst e
      match u, hr with
      | [], _ => simp only [SRepL]
      | _ :: _, hr => simp [SRepL] at hr
  | x :: r, y, u, e, hr => by
      simp only [unrL] at e
      split at e
      · rename_i y' s' h1 h2
        simp only [Option.some.injEq] at e; subst e
        match u, hr with
        | v :: vs, hr =>
          simp only [SRepL] at hr ⊢
          exact ⟨SRep.unr x y' v h1 hr.1, SRepL.unr r s' vs h2 hr.2⟩
        | [], hr => simp [SRepL] at hr
      · cases e
end

theorem ORep.unr {i : Nat} {o o' : SO} (e : unrO ls o = some o') (hr : ORep cx w (ls.getD i 0) o) : ORep (cxM cx h ls) w i o' := by
  cases o with
  | cells t c =>
    simp only [unrO] at e
    split at e
    · rename_i c' hc
      simp only [Option.some.injEq] at e; subst e
      obtain ⟨t', p, k1, k2⟩ := hr
      exact ⟨t', p, k1, SRepL.unr c c' p hc k2⟩
    · cases e
  | maps es => cases e
  | dead => simp only [unrO, Option.some.injEq] at e; subst e; exact hr
  | rowi t k xs => simp only [unrO, Option.some.injEq] at e; subst e; exact hr
  | row t sz n f => simp only [unrO, Option.some.injEq] at e; subst e; exact hr
  | mapi k es => simp only [unrO, Option.some.injEq] at e; subst e; exact hr
  | mapb es => simp only [unrO, Option.some.injEq] at e; subst e; exact hr

theorem unrO_liv {cx' : Cx} {h' : SH} {i l : Nat} {o : SO} (e : unrO ls (hget h l) = some o) (ho : hget h' i = o) (hn : cx'.nl i = cx.nl l) (hl : liv cx' h' i) : liv cx h l := by
  unfold liv at hl ⊢
  rw [ho] at hl
  cases hq : hget h l <;> rw [hq] at e <;> simp only [unrO] at e
  case cells t c => trivial
  case maps es => trivial
  all_goals (simp only [Option.some.injEq] at e; subst e; simp only at hl ⊢)
  all_goals (rw [← hn]; exact hl)

theorem unrH_get : ∀ {r : List Nat} {h0 : SH}, unrH ls h r = some h0 → h0.length = r.length ∧ ∀ i, i < r.length → unrO ls (hget h (r.getD i 0)) = some (hget h0 i)
  | [], h0, e => by simp only [unrH, Option.some.injEq] at e; subst e; simp
  | l :: r, h0, e => by
    simp only [unrH] at e
    split at e
    · rename_i o s h1 h2
      simp only [Option.some.injEq] at e; subst e
      obtain ⟨k1, k2⟩ := unrH_get h2
      refine ⟨by simp [k1], fun i hi => ?_⟩
      cases i with
      | zero => simpa [hget] using h1
      | succ i => simpa [hget] using k2 i (by simpa using hi)
    · cases e

theorem nrmC_ok {cx' : Cx} (hf : cx'.fz = cx.fz) : ∀ {cts : List CT} {c c' : List SV} {vs : List Value}, nrmC cts c = some c' → SRepL cx w c vs → SRepL cx' w c' vs
  | [], [], c', vs, e, hr => by
    simp only [nrmC, Option.some.injEq] at e; subst e
    match vs, hr with
    | [], _ => simp only [SRepL]
    | _ :: _, hr => simp [SRepL] at hr
  | [], _ :: _, c', vs, e, _ => by simp [nrmC] at e
  | _ :: _, [], c', vs, e, _ => by simp [nrmC] at e
  | t :: ts, x :: r, c', vs, e, hr => by
    match vs, hr with
    | [], hr => simp [SRepL] at hr
    | v :: vs, hr =>
      simp only [SRepL] at hr
      simp only [nrmC] at e
      split at e
      · cases e
      · rename_i l hl
        have ih := nrmC_ok hf hl hr.2
        split at e
        · obtain ⟨h1, e⟩ := cond_some e
          simp only [Option.some.injEq] at e; subst e
          have := kEq_eq h1; subst this
          have h0 := hr.1
          simp only [SRepL, SRep, hf] at h0 ⊢
          exact ⟨h0, ih⟩
        · simp only [Option.some.injEq] at e; subst e
          have h0 := hr.1
          simp only [SRepL, SRep, hf] at h0 ⊢
          exact ⟨h0, ih⟩
        · obtain ⟨h1, e⟩ := cond_some e
          simp only [Option.some.injEq] at e; subst e
          have := kEq_eq h1; subst this
          have h0 := hr.1
          simp only [SRepL, SRep, hf] at h0 ⊢
          exact ⟨h0, ih⟩
        · simp only [Option.some.injEq] at e; subst e
          have h0 := hr.1
          simp only [SRepL, SRep, DRep] at h0 ⊢
          exact ⟨⟨none, 0, h0.1, by simp, by simp⟩, ih⟩
        · simp only [Option.some.injEq] at e; subst e
          have h0 := hr.1
          simp only [SRepL, SRep, DRep] at h0 ⊢
          exact ⟨⟨_, _, h0.1, by simp, by simp⟩, ih⟩
        · cases e

theorem nrmA_ok : ∀ {ts : List (Option (List CT))} {args a0 : List SV} {vs : List Value}, nrmA ls ts args = some a0 → SRepL cx w args vs → SRepL (cxM cx h ls) w a0 vs
  | [], [], a0, vs, e, hr => by
    simp only [nrmA, Option.some.injEq] at e; subst e
    match vs, hr with
    | [], _ => simp only [SRepL]
    | _ :: _, hr => simp [SRepL] at hr
  | [], _ :: _, c', vs, e, _ => by simp [nrmA] at e
  | _ :: _, [], c', vs, e, _ => by simp [nrmA] at e
  | t :: ts, x :: r, a0, vs, e, hr => by
    match vs, hr with
    | [], hr => simp [SRepL] at hr
    | v :: vs, hr =>
      simp only [SRepL] at hr
      simp only [nrmA] at e
      split at e
      · cases e
      · rename_i l hl
        have ih := nrmA_ok hl hr.2
        split at e
        · split at e
          · rename_i y hy
            simp only [Option.some.injEq] at e; subst e
            simp only [SRepL]
            exact ⟨SRep.unr _ _ _ hy hr.1, ih⟩
          · cases e
        · split at e
          · rename_i c' hc
            simp only [Option.some.injEq] at e; subst e
            have h0 := hr.1
            simp only [SRepL, SRep] at h0 ⊢
            obtain ⟨p, e1, h1⟩ := h0
            exact ⟨⟨p, e1, nrmC_ok (cx := cx) (cx' := cxM cx h ls) rfl hc h1⟩, ih⟩
          · cases e
        · cases e

theorem gamM (hg : Gam cx h w) (hok : okLs h.length ls = true) {h0 : SH} (e : unrH ls h ls = some h0) : Gam (cxM cx h ls) h0 w := by
  obtain ⟨hlen, hget0⟩ := unrH_get e
  have hin : ∀ i, liv (cxM cx h ls) h0 i → i < ls.length ∧ liv cx h (ls.getD i 0) := fun i hi => by
    by_cases hlt : i < ls.length
    · exact ⟨hlt, unrO_liv (hget0 i hlt) rfl rfl hi⟩
    · unfold liv at hi
      rw [hget_ge (by omega)] at hi
      exact hi.elim
  refine ⟨hlen.symm, fun i => ?_, fun i hi => hg.lt _ (hin i hi).2, fun i hi hhd => ?_, fun i j hi hj e => ?_, fun b hb => ?_, fun b hb hf => ?_⟩
  · by_cases hlt : i < ls.length
    · exact ORep.unr (hget0 i hlt) (hg.obj _)
    · rw [hget_ge (by omega)]; trivial
  · obtain ⟨h1, h2⟩ := hin i hi
    rcases hhd with h3 | h3 | ⟨l, h3, h4, h5⟩
    · exact hg.own _ h2 (.inl h3)
    · exact hg.own _ h2 (.inr h3)
    · have := hg.inj _ _ h2 h4 h5
      rw [← this, getD_nmem h1] at h3
      cases h3
  · obtain ⟨h1, h2⟩ := hin i hi
    obtain ⟨h3, h4⟩ := hin j hj
    have e2 := hg.inj _ _ h2 h4 e
    have e3 := idx_get (j := 0) hok h1
    rw [e2, idx_get hok h3] at e3
    simpa using e3.symm
  · rcases hb with h3 | h3 | ⟨l, h3, h4, h5⟩
    · exact hg.fzlt b (.inl h3)
    · exact hg.fzlt b (.inr h3)
    · rw [h5]; exact hg.lt l h4
  · rcases hf with h3 | ⟨l, h3, h4, h5⟩
    · exact hg.dj b hb h3
    · subst h5; exact hg.own l h4 (.inl hb)
end

/-- The caller's context afterwards. -/
def cxR (cx cxs : Cx) (N : Nat) (ls : List Nat) : Cx where
  n := N + (cxs.n - ls.length)
  th := fun l => match idx l ls 0 with | some i => cxs.th i | none => if l < N then cx.th l else cxs.th (l - N + ls.length)
  ln := fun l => match idx l ls 0 with | some i => cxs.ln i | none => if l < N then cx.ln l else cxs.ln (l - N + ls.length)
  cp := fun l => match idx l ls 0 with | some i => cxs.cp i | none => if l < N then cx.cp l else cxs.cp (l - N + ls.length)
  nl := fun l => match idx l ls 0 with | some i => cxs.nl i | none => if l < N then cx.nl l else cxs.nl (l - N + ls.length)
  rs := fun l => match idx l ls 0 with | some i => cxs.rs i | none => if l < N then cx.rs l else cxs.rs (l - N + ls.length)
  fz := cxs.fz
  fr := cx.fr

theorem pick_loc {α : Type} {N : Nat} {ls : List Nat} (hok : okLs N ls = true) (a b : Nat → α) (i : Nat) :
    (match idx (locC ls N i) ls 0 with | some j => b j | none => if locC ls N i < N then a (locC ls N i) else b (locC ls N i - N + ls.length)) = b i := by
  unfold locC
  cases hb : Nat.blt i ls.length with
  | true =>
    have hi : i < ls.length := blt_lt hb
    simp only [cond_true]
    rw [idx_get hok hi]
    simp
  | false =>
    have hi : ls.length ≤ i := by
      rcases Nat.lt_or_ge i ls.length with h | h
      · rw [show Nat.blt i ls.length = true from Nat.ble_eq_true_of_le h] at hb; cases hb
      · exact h
    simp only [cond_false]
    have h1 : idx (N + (i - ls.length)) ls 0 = none := by
      cases hq : idx (N + (i - ls.length)) ls 0 with
      | none => rfl
      | some j =>
        obtain ⟨_, h2, h3⟩ := idx_some hq
        have := okLs_lt hok h2
        omega
    rw [h1]
    simp only
    rw [if_neg (by omega)]
    congr 1; omega

theorem locC_lt {N n : Nat} {ls : List Nat} (hok : okLs N ls = true) (hn : ls.length ≤ n) {i : Nat} (hi : i < n) : locC ls N i < N + (n - ls.length) := by
  unfold locC
  cases hb : Nat.blt i ls.length with
  | true =>
    have hi : i < ls.length := blt_lt hb
    simp only [cond_true]
    have := okLs_lt hok hi
    omega
  | false =>
    simp only [cond_false]
    have hi' : ls.length ≤ i := by
      rcases Nat.lt_or_ge i ls.length with h | h
      · rw [show Nat.blt i ls.length = true from Nat.ble_eq_true_of_le h] at hb; cases hb
      · exact h
    omega

theorem rnR {cx cxs : Cx} {N : Nat} {ls : List Nat} (hok : okLs N ls = true) (hn : ls.length ≤ cxs.n) : Rn (locC ls N) cxs (cxR cx cxs N ls) :=
  ⟨fun _ h => h, fun i hi => ⟨locC_lt hok hn hi, pick_loc hok _ _ i, pick_loc hok _ _ i, pick_loc hok _ _ i, pick_loc hok _ _ i, pick_loc hok _ _ i⟩⟩

theorem nmem_map {ls : List Nat} {ap : List Nat} {i : Nat} (hi : nmem i ap = true) : nmem (ls.getD i 0) (ap.map fun i => ls.getD i 0) = true := by
  induction ap with
  | nil => simp [nmem] at hi
  | cons a r ih =>
    simp only [nmem, List.map_cons] at hi ⊢
    cases hb : Nat.beq a i with
    | true =>
      have := nbeq.1 hb
      subst this
      simp
    | false =>
      rw [hb] at hi
      simp only [cond_false] at hi
      have := ih hi
      cases Nat.beq (ls.getD a 0) (ls.getD i 0) with
      | true => rfl
      | false => simpa using this

/-- What a callee leaves, set into its caller's heap. -/
theorem back_gam {cx : Cx} {h : SH} {w w' : World} {ls : List Nat} {ap : List Nat} (hg : Gam cx h w) (hok : okLs h.length ls = true) (hap : ∀ i ∈ ap, i < ls.length) (hasd : aside ls (ap.map fun i => ls.getD i 0) 0 h = true)
    {p : Nat → Bool} (hp : ∀ i, i < ls.length → nmem i ap = false → p i = false) {cxs : Cx} {h1 : SH} (gr : Grow p (cxM cx h ls) w cxs w') (hG : Gam cxs h1 w') (hle : ls.length ≤ h1.length) :
    Grow (fun l => nmem l (ap.map fun i => ls.getD i 0)) cx w (cxR cx cxs h.length ls) w' ∧
    Gam (cxR cx cxs h.length ls) (setLs h ls (renH (locC ls h.length) h1) ++ (renH (locC ls h.length) h1).drop ls.length) w' := by
  have hn := hg.n
  have hns := hG.n
  have hfr : cxs.fr = (cxM cx h ls).fr := gr.fr
  generalize hsc : (ap.map fun i => ls.getD i 0) = sc at *
  have gr' : Grow (fun l => nmem l sc) cx w (cxR cx cxs h.length ls) w' := by
    refine ⟨gr.fz, fun b hb => gr.same b (hb.imp id .inl), gr.size, fun l hl hpl => ?_, rfl, gr.io⟩
    refine ⟨by simp only [cxR]; omega, ?_⟩
    cases hi : idx l ls 0 with
    | none => simp only [cxR, hi]; rw [hn] at hl; simp [hl]
    | some i =>
      obtain ⟨_, h2, h3⟩ := idx_some hi
      simp only [Nat.sub_zero] at h2 h3
      have hni : nmem i ap = false := by
        cases hb : nmem i ap with
        | false => rfl
        | true =>
          have := nmem_map (ls := ls) hb
          rw [hsc, h3] at this
          have h9 : nmem l sc = false := hpl
          rw [this] at h9; cases h9
      obtain ⟨_, k⟩ := gr.loc i h2 (hp i h2 hni)
      simp only [cxM, h3] at k
      simp only [cxR, hi]
      exact k
  refine ⟨gr', ?_⟩
  have hrl : (renH (locC ls h.length) h1).length = h1.length := renH_length
  have hR := rnR (cx := cx) (cxs := cxs) hok (by omega)
  -- what stands at a loc
  have key : ∀ l, (nmem l ls = false ∧ l < h.length ∧ hget (setLs h ls (renH (locC ls h.length) h1) ++ (renH (locC ls h.length) h1).drop ls.length) l = hget h l ∧ (cxR cx cxs h.length ls).th l = cx.th l ∧ (cxR cx cxs h.length ls).nl l = cx.nl l) ∨
      ∃ j, locC ls h.length j = l ∧ hget (setLs h ls (renH (locC ls h.length) h1) ++ (renH (locC ls h.length) h1).drop ls.length) l = renO (locC ls h.length) (hget h1 j) ∧ (cxR cx cxs h.length ls).th l = cxs.th j ∧ (cxR cx cxs h.length ls).nl l = cxs.nl j := fun l => by
    rw [hget_app, setLs_length]
    cases hi : idx l ls 0 with
    | some i =>
      obtain ⟨_, h2, h3⟩ := idx_some hi
      simp only [Nat.sub_zero] at h2 h3
      have hlt : l < h.length := by rw [← h3]; exact okLs_lt hok h2
      refine .inr ⟨i, ?_, ?_, by simp [cxR, hi], by simp [cxR, hi]⟩
      · unfold locC
        rw [show Nat.blt i ls.length = true from Nat.ble_eq_true_of_le h2]
        exact h3
      · rw [if_pos hlt, setLs_get hok rfl (by omega), hi]
        exact renH_get
    | none =>
      by_cases hlt : l < h.length
      · refine .inl ⟨idx_none.1 hi, hlt, ?_, by simp [cxR, hi, hlt], by simp [cxR, hi, hlt]⟩
        rw [if_pos hlt, setLs_get hok rfl (by omega), hi]
      · refine .inr ⟨l - h.length + ls.length, ?_, ?_, by simp [cxR, hi, hlt], by simp [cxR, hi, hlt]⟩
        · unfold locC
          have : Nat.blt (l - h.length + ls.length) ls.length = false := by
            cases hb : Nat.blt (l - h.length + ls.length) ls.length with
            | false => rfl
            | true => have : l - h.length + ls.length < ls.length := blt_lt hb; omega
          rw [this]
          simp only [cond_false]
          omega
        · rw [if_neg hlt, hget_drop, renH_get]
          congr 2; omega
  have lvo : ∀ l, nmem l ls = false → hget (setLs h ls (renH (locC ls h.length) h1) ++ (renH (locC ls h.length) h1).drop ls.length) l = hget h l → (cxR cx cxs h.length ls).nl l = cx.nl l → liv (cxR cx cxs h.length ls) (setLs h ls (renH (locC ls h.length) h1) ++ (renH (locC ls h.length) h1).drop ls.length) l → liv cx h l := fun l _ h1 h2 hl => by
    unfold liv at hl ⊢
    rw [h1, h2] at hl
    exact hl
  refine ⟨?_, fun l => ?_, fun l hl => ?_, fun l hl hhd => ?_, fun l m hl hm e => ?_, fun b hb => ?_, fun b hb hf => ?_⟩
  · simp only [cxR, List.length_append, setLs_length, List.length_drop, hrl]; omega
  · rcases key l with ⟨k1, k2, k3, k4, k5⟩ | ⟨j, k1, k2, _, _⟩
    · rw [k3]
      have hsame : liv cx h l → w'.heap[cx.th l]? = w.heap[cx.th l]? := fun hl => gr.same _ (.inr (.inr ⟨l, k1, hl, rfl⟩))
      have hnsc : nmem l sc = false := by
        rw [nmem_iff, ← hsc]
        intro hm
        obtain ⟨i, h4, h5⟩ := List.mem_map.1 hm
        have := getD_nmem (ls := ls) (hap i h4)
        rw [h5, k1] at this; cases this
      refine ORep.mono gr' (by rw [hn]; exact k2) hnsc _ (aside_get (i := 0) hasd k2 (by rw [Nat.zero_add]; exact k1)) ⟨fun xs t k e hq => hsame ?_, fun t sz n f e hq => hsame ?_, fun q1 q2 q3 => hsame ?_⟩ (hg.obj l)
      · simp [liv, e, hq]
      · simp [liv, e, hq]
      · cases ho : hget h l with
        | dead => exact absurd ho q3
        | rowi t k xs => exact absurd ho (q1 xs t k)
        | row t sz n f => exact absurd ho (q2 t sz n f)
        | _ => simp [liv, ho]
    · rw [k2]
      by_cases hj : j < cxs.n
      · rw [← k1]; exact ORep.ren hR hj _ (hG.obj j)
      · rw [hget_ge (by omega)]; trivial
  · rcases key l with ⟨k1, k2, k3, k4, k5⟩ | ⟨j, k1, k2, k3, k4⟩
    · rw [k4]; exact Nat.lt_of_lt_of_le (hg.lt l (lvo l k1 k3 k5 hl)) gr.size
    · rw [k3]; exact hG.lt j (renO_liv k2 k4 hl)
  · rcases key l with ⟨k1, k2, k3, k4, k5⟩ | ⟨j, k1, k2, k3, k4⟩
    · have hv := lvo l k1 k3 k5 hl
      rcases hhd with h3 | h3
      · rw [k4] at h3
        exact hG.dj _ h3 (by rw [hfr]; exact .inr ⟨l, k1, hv, rfl⟩)
      · rw [k4] at h3
        exact hg.own l hv (.inr h3)
    · refine hG.own j (renO_liv k2 k4 hl) ?_
      rw [← k3]
      rcases hhd with h3 | h3
      · exact .inl h3
      · exact .inr (by rw [hfr]; exact .inl h3)
  · rcases key l with ⟨k1, k2, k3, k4, k5⟩ | ⟨j, k1, k2, k3, k4⟩ <;> rcases key m with ⟨m1, m2, m3, m4, m5⟩ | ⟨i, m1, m2, m3, m4⟩
    · rw [k4, m4] at e
      exact hg.inj l m (lvo l k1 k3 k5 hl) (lvo m m1 m3 m5 hm) e
    · rw [k4, m3] at e
      exact absurd (.inr (by rw [hfr, ← e]; exact .inr ⟨l, k1, lvo l k1 k3 k5 hl, rfl⟩)) (hG.own i (renO_liv m2 m4 hm))
    · rw [k3, m4] at e
      exact absurd (.inr (by rw [hfr, e]; exact .inr ⟨m, m1, lvo m m1 m3 m5 hm, rfl⟩)) (hG.own j (renO_liv k2 k4 hl))
    · rw [k3, m3] at e
      have := hG.inj j i (renO_liv k2 k4 hl) (renO_liv m2 m4 hm) e
      rw [← k1, ← m1, this]
  · rcases hb with h3 | h3
    · exact hG.fzlt b (.inl h3)
    · exact hG.fzlt b (.inr (by rw [hfr]; exact .inl h3))
  · exact hG.dj b hb (by rw [hfr]; exact .inl hf)

theorem altsM_first {Ω : Type} {ls sc : List Nat} {k : SV → List Nat → List Nat → SH → Option Ω} {h : SH} {out : Ω} : ∀ {L : List Alt}, altsM ls sc k h L = some out → ∃ r h1, firstAlt L = some (r, h1) ∧ ls.length ≤ h1.length ∧ k (ren (locC ls h.length) r) ls sc (setLs h ls (renH (locC ls h.length) h1) ++ (renH (locC ls h.length) h1).drop ls.length) = some out
  | [], e => by cases e
  | (g, r, h1) :: rest, e => by
    cases g with
    | true =>
      simp only [altsM, br, cond_true] at e
      obtain ⟨e1, e2⟩ := cond_some e
      exact ⟨r, h1, rfl, Nat.le_of_ble_eq_true e1, e2⟩
    | false =>
      obtain ⟨r', hr', h1, h2⟩ := altsM_first (L := rest) e
      exact ⟨r', hr', h1, h2⟩

theorem altsM_of {Ω : Type} {ls sc : List Nat} {k : SV → List Nat → List Nat → SH → Option Ω} {h : SH} : ∀ {L : List Alt} {r : SV} {h1 : SH}, firstAlt L = some (r, h1) → ls.length ≤ h1.length → altsM ls sc k h L = k (ren (locC ls h.length) r) ls sc (setLs h ls (renH (locC ls h.length) h1) ++ (renH (locC ls h.length) h1).drop ls.length)
  | [], r, hr, e, _ => by cases e
  | (g, r', hr') :: rest, r, hr, e, hl => by
    cases g with
    | true =>
      simp only [firstAlt, cond_true, Option.some.injEq, Prod.mk.injEq] at e
      obtain ⟨rfl, rfl⟩ := e
      simp only [altsM, br, cond_true]
      rw [Nat.ble_eq_true_of_le hl]
      rfl
    | false => exact altsM_of (L := rest) e hl

theorem mem_par {ts : List (Option (List CT))} {find : SH → List SV → Option (List Nat)} {ap : List Nat} {F : List SV → SH → List Alt} {Ω Ω' : Type} : SpecPar (memSpec ts find ap F (Ω := Ω)) (memSpec ts find ap F (Ω := Ω')) := by
  intro args h k out hs
  unfold memSpec at hs ⊢
  split at hs
  · cases hs
  · rename_i ls hls
    split at hs
    · rename_i a0 h0 ha hh
      obtain ⟨e1, hs⟩ := cond_some hs
      obtain ⟨r, h1, k1, k2, k3⟩ := altsM_first hs
      refine ⟨_, _, _, _, k3, fun k' => ?_⟩
      simp only [e1, cond_true]
      exact altsM_of k1 k2
    · cases hs

/-! ### results that say less -/
 mutual
/-- What x says, y says too, or less. -/
def LeV : SV → SV → Prop
  | .agg c, .agg c' => LeVL c c'
  | .tup c, .tup c' => LeVL c c'
  | .d (.v (.slice none 0 0)), .d (.ints _ []) => True
  | x, y => x = y
def LeVL : List SV → List SV → Prop
  | [], [] => True
  | x :: r, y :: s => LeV x y ∧ LeVL r s
  | _, _ => False
end

 mutual
theorem LeV.refl : ∀ x : SV, LeV x x
  | .agg c => by simp only [LeV]; exact LeVL.refl c
  | .tup c => by simp only [LeV]; exact LeVL.refl c
  | .d x => by
    unfold LeV
    split
    · rename_i e; cases e
    · rename_i e; cases e
    · trivial
    · rfl
  | .ptr l o => by simp only [LeV]
  | .pe l i o => by simp only [LeV]
  | .rp sz g o => by simp only [LeV]
  | .own l => by simp only [LeV]
  | .cs l o sz n c => by simp only [LeV]
  | .mp l => by simp only [LeV]
  | .md ks c => by simp only [LeV]
  | .rc c o => by simp only [LeV]
  | .fn g a b => by simp only [LeV]
  | .top => by simp only [LeV]
theorem LeVL.refl : ∀ c : List SV, LeVL c c
  | [] => trivial
  | x :: r => ⟨LeV.refl x, LeVL.refl r⟩
end

section
variable {cx : Cx} {w : World}
 mutual
theorem LeV.rep : ∀ (x y : SV) (u : Value), LeV x y → SRep cx w x u → SRep cx w y u
  | .agg c, y, u, e, h => by
    cases y with
    | agg c' =>
      simp only [LeV] at e
      simp only [SRep] at h ⊢
      obtain ⟨p, e1, h1⟩ := h
      exact ⟨p, e1, LeVL.rep c c' p e h1⟩
    | _ => simp [LeV] at e
  | .tup c, y, u, e, h => by
    cases y with
    | tup c' =>
      simp only [LeV] at e
      simp only [SRep] at h ⊢
      obtain ⟨p, e1, h1⟩ := h
      exact ⟨p, e1, LeVL.rep c c' p e h1⟩
    | _ => simp [LeV] at e
  | .d x, y, u, e, h => by
    unfold LeV at e
    split at e
    · rename_i e1; cases e1
    · rename_i e1; cases e1
    · rename_i e1
      cases e1
      simp only [SRep, DRep] at h ⊢
      exact ⟨none, 0, h.1, by simp, by simp⟩
    · rw [← e]; exact h
  | .ptr l o, y, u, e, h => by simp only [LeV] at e; rw [← e]; exact h
  | .pe l i o, y, u, e, h => by simp only [LeV] at e; rw [← e]; exact h
  | .rp sz g o, y, u, e, h => by simp only [LeV] at e; rw [← e]; exact h
  | .own l, y, u, e, h => by simp only [LeV] at e; rw [← e]; exact h
  | .cs l o sz n c, y, u, e, h => by simp only [LeV] at e; rw [← e]; exact h
  | .mp l, y, u, e, h => by simp only [LeV] at e; rw [← e]; exact h
  | .md ks c, y, u, e, h => by simp only [LeV] at e; rw [← e]; exact h
  | .rc c o, y, u, e, h => by simp only [LeV] at e; rw [← e]; exact h
  | .fn g a b, y, u, e, h => by simp only [LeV] at e; rw [← e]; exact h
  | .top, y, u, e, h => by simp only [LeV] at e; rw [← e]; exact h
theorem LeVL.rep : ∀ (c c' : List SV) (u : List Value), LeVL c c' → SRepL cx w c u → SRepL cx w c' u
  | [], [], u, _, h => h
  | x :: r, y :: s, u, e, h => by
    match u, h with
    | v :: vs, h =>
      simp only [SRepL, LeVL] at h e ⊢
      exact ⟨LeV.rep x y v e.1 h.1, LeVL.rep r s vs e.2 h.2⟩
    | [], h => simp [SRepL] at h
  | [], _ :: _, _, e, _ => by simp [LeVL] at e
  | _ :: _, [], _, e, _ => by simp [LeVL] at e
end
end

theorem memGood {P : Program} {g : Nat} {fn : Func} (hf : P.funcs[g]? = some fn) (hname : (fn.name == "runtime.NumGoroutine") = false) {C : CF} (hC : coF P fn = some C) {A : Ann} {e : {Ω : Type} → Env Ω} (he : GoodE P e) (hmix : P.follows .mixedOrders = true)
    {ts : List (Option (List CT))} {find : SH → List SV → Option (List Nat)} {ap : List Nat} {F : List SV → SH → List Alt}
    (hap : ∀ h args ls, find h args = some ls → ∀ i ∈ ap, i < ls.length)
    (hrun : ∀ a0 h0 r h1, firstAlt (F a0 h0) = some (r, h1) → ∃ r0 hr0 H, LeV r0 r ∧ RowEq hr0 h1 ∧ trim h0.length r0 (List.range h0.length) H = hr0 ∧
      sxFn (e (Ω := SV × SH)) { A with n0 := h0.length, ap := ap } C a0 h0 (fun r h => some (r, h)) = some (r0, H)) :
    Good1 P g (fun {Ω} => memSpec ts find ap F (Ω := Ω)) := by
  have hbody : ∃ c, fn.body = some c := by
    unfold coF at hC
    split at hC
    · rename_i c hb; exact ⟨c, hb⟩
    · cases hC
  obtain ⟨c, hb⟩ := hbody
  have henter : ∀ (args : Array Value) (w : World), (callFunc g args).run P w = .ok (.enter g args) w := fun args w => by
    have h1 : fn.name ≠ "runtime.NumGoroutine" := by simpa using hname
    simp [callFunc, hf, h1, hb]
  refine ⟨fun Ω => ⟨henter, fun args h k out hs => ?_⟩, fun Ω Ω' => mem_par⟩
  unfold memSpec at hs
  split at hs
  · cases hs
  · rename_i ls hls
    split at hs
    · rename_i a0 h0 ha hh
      obtain ⟨e1, hs⟩ := cond_some hs
      rw [Bool.and_eq_true] at e1
      obtain ⟨hok, hasd⟩ := e1
      obtain ⟨r, h1, k1, k2, k3⟩ := altsM_first hs
      obtain ⟨r0, hr0, H, hle, heq, htr, hrun⟩ := hrun a0 h0 r h1 k1
      have hlen := (unrH_get hh).1
      refine ⟨_, ls, _, _, k3, ⟨by simp only [List.length_append, setLs_length]; omega, fun l hl hlm => ?_⟩, fun cx w vals hg hargs => ?_⟩
      · rw [hget_app, setLs_length, if_pos hl, setLs_get hok rfl (by rw [renH_length]; exact k2), idx_none.2 hlm]
      · have hcalls := fn_calls (A := { A with n0 := h0.length, ap := ap }) (he.ok _) hmix hf hC hrun (cxM cx h ls) w vals (gamM hg hok hh) (nrmA_ok ha hargs)
        refine hcalls.mono fun e w' ⟨v, cxq, e1, grq, hrq, hGq⟩ => ?_
        obtain ⟨cxs, hG, hr, hgrow⟩ := trim_sound (n0 := h0.length) (m := List.range h0.length) hGq hrq
        have gr := hgrow (by simp only [cxM, hlen]; exact Nat.le_refl _) grq
        rw [htr] at hG
        have hG' := hG.rowEq heq
        obtain ⟨q1, q2⟩ := back_gam hg hok (hap h args ls hls) hasd (fun i hi hni => by
          simp only [Ann.p, Ann.ok, hni, Bool.or_false]
          cases hb : Nat.ble h0.length i with
          | false => rfl
          | true => have := Nat.le_of_ble_eq_true hb; omega) gr hG' k2
        exact ⟨v, _, e1, q1, SRep.ren (rnR hok (by have := hG'.n; omega)) _ _ (LeV.rep _ _ _ hle hr), q2⟩
    · cases hs
end Go.Sx
