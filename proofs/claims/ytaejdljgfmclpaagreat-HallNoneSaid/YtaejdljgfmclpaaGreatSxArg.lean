/- Contracts of the functions with loops: both checks of a configuration, the layout's list, equality of lists, clone. -/
import Derived.Test.YtaejdljgfmclpaaGreatP1
import Derived.Test.YtaejdljgfmclpaaGreatP1
import Derived.Test.YtaejdljgfmclpaaGreatRows
import Derived.KernelRfl
set_option linter.all false
set_option linter.unusedVariables false
set_option linter.unusedSimpArgs false
set_option linter.unnecessarySimpa false
namespace Go.Sx.Pr
open Go Go.Sx Go.Proofs
set_option maxRecDepth 100000

abbrev cfgK : List IntKind := [.i64, .i64, .i64, .i64, .i64, .i64, .i64, .u64]
abbrev CFG (a b c d e f g l : Int) : SO := .cells 24 [I a, I b, I c, I d, I e, I f, I g, U l]
abbrev cfgS (a b c d e f g l : Int) : SV := .agg [I a, I b, I c, I d, I e, I f, I g, U l]

/-- Check: workers a, slabs b, blocks c, words d, entries e, rack f, bag g, last l. -/
def chk (a b c d e f g l : Int) : Int :=
  bif decide (a < 1) || (decide (b < 1) || (decide (c < 1) || (decide (d < 1) || (decide (e < 1) || (decide (g < 1) || (decide (f < 0) || decide (l < 1))))))) then 1 else
  bif decide (a > 8) || (decide (b > 8) || (decide (c > 16) || (decide (d > 4) || (decide (e > 32) || (decide (g > 8) || (decide (f > 4) || decide (l > 1048576))))))) then 2 else 0

theorem chk_zero {a b c d e f g l : Int} (h : chk a b c d e f g l = 0) : (1 ≤ a ∧ a ≤ 8) ∧ (1 ≤ b ∧ b ≤ 8) ∧ (1 ≤ c ∧ c ≤ 16) ∧ (1 ≤ d ∧ d ≤ 4) ∧ (1 ≤ e ∧ e ≤ 32) ∧ (0 ≤ f ∧ f ≤ 4) ∧ (1 ≤ g ∧ g ≤ 8) ∧ (1 ≤ l ∧ l ≤ 1048576) := by
  unfold chk at h
  rw [cond_eq_ite, cond_eq_ite] at h
  split at h
  · cases h
  · split at h
    · cases h
    · rename_i h1 h2
      simp only [Bool.or_eq_true, decide_eq_true_eq, not_or] at h1 h2
      omega

def FChk : List (List Int) → Option (Bool × SV × SH)
  | [[a, b, c, d, e, f, g, l]] => some (true, I (chk a b c d e f g l), [])
  | _ => none

theorem or_cond {α : Type} (a b : Bool) (x y : α) : (bif a || b then x else y) = bif a then x else bif b then x else y := by cases a <;> rfl

theorem br_KI {Ω : Type} (K : SV → SH → Option Ω) (b : Bool) (x y : Int) (H : SH) : br b (K (I x) H) (K (I y) H) = K (I (bif b then x else y)) H := by cases b <;> rfl

theorem nf19 {Ω : Type} (it : Itr Ω) (K : SV → SH → Option Ω) (a b c d e f g l : Int) : sxFnI it E19 A19 C19 [cfgS a b c d e f g l] [] K =
    br (decide (a < 1)) (K (I 1) [CFG a b c d e f g l]) (br (decide (b < 1)) (K (I 1) [CFG a b c d e f g l]) (br (decide (c < 1)) (K (I 1) [CFG a b c d e f g l]) (br (decide (d < 1)) (K (I 1) [CFG a b c d e f g l]) (br (decide (e < 1)) (K (I 1) [CFG a b c d e f g l]) (br (decide (g < 1)) (K (I 1) [CFG a b c d e f g l]) (br (decide (f < 0)) (K (I 1) [CFG a b c d e f g l]) (br (decide (l < 1)) (K (I 1) [CFG a b c d e f g l])
    (br (decide (a > 8)) (K (I 2) [CFG a b c d e f g l]) (br (decide (b > 8)) (K (I 2) [CFG a b c d e f g l]) (br (decide (c > 16)) (K (I 2) [CFG a b c d e f g l]) (br (decide (d > 4)) (K (I 2) [CFG a b c d e f g l]) (br (decide (e > 32)) (K (I 2) [CFG a b c d e f g l]) (br (decide (g > 8)) (K (I 2) [CFG a b c d e f g l]) (br (decide (f > 4)) (K (I 2) [CFG a b c d e f g l]) (br (decide (l > 1048576)) (K (I 2) [CFG a b c d e f g l]) (K (I 0) [CFG a b c d e f g l])))))))))))))))) := by kernel_rfl

theorem v19 {Ω : Type} (K : SV → SH → Option Ω) (a b c d e f g l : Int) : sxFn E19 A19 C19 [cfgS a b c d e f g l] [] K = K (I (chk a b c d e f g l)) [CFG a b c d e f g l] := by
  rw [← sxFnI_eq, nf19]
  unfold chk
  simp only [or_cond, br_KI]

theorem lenAs_one {l : List (List Int)} {ks : List IntKind} (h : lenAs [.g ks] l) : ∃ a, l = [a] ∧ a.length = ks.length := by
  obtain ⟨a, r, rfl, h1, h2⟩ := h
  simp only [lenAs] at h2
  subst h2
  exact ⟨a, rfl, h1⟩

theorem eight {α : Type} {l : List α} (h : l.length = 8) : ∃ a b c d e f g i, l = [a, b, c, d, e, f, g, i] := by
  match l, h with
  | [a, b, c, d, e, f, g, i], _ => exact ⟨a, b, c, d, e, f, g, i, rfl⟩

def S19 {Ω : Type} : Spec Ω := conSpec [.g cfgK] FChk
theorem g19 : Good1 Tryz.prog 18 S19 := conGood Tryz.func18 (by kernel_rfl) c19 e19 mix (A := A19) fun l r hr hl hF => by
  obtain ⟨x, rfl, hx⟩ := lenAs_one hl
  obtain ⟨a, b, c, d, e, f, g, i, rfl⟩ := eight hx
  simp only [FChk, Option.some.injEq, Prod.mk.injEq, true_and] at hF
  obtain ⟨rfl, rfl⟩ := hF
  exact ⟨trivial, trivial, _, trim_none rfl _, v19 _ a b c d e f g i⟩

/-! ### plan.Check -/
abbrev ARR (a b c d e f g : Int) : List SV := [I a, I 1, I 8, I b, I 1, I 8, I c, I 1, I 16, I d, I 1, I 4, I e, I 1, I 32, I f, I 0, I 4, I g, I 1, I 8]
abbrev S106s (x i a b c d e f g l : Int) : SS := ⟨[(1, .ptr 0 0), (4, I x), (29, .agg (ARR a b c d e f g)), (30, I i)], [CFG a b c d e f g l, .cells 140 (ARR a b c d e f g)]⟩

section
variable {Ω : Type} (it : Itr Ω) (IT : SS → Option Ω) (K : SV → SH → Option Ω) (x a b c d e f g l : Int)
theorem r106 : sxFnI it E106 A106 C106 [cfgS a b c d e f g l] [] K = it [1, 4, 29, 30] 2 (sxI it E106 A106 L106_2 0) (S106s 0 0 a b c d e f g l) (Z106_2 it K) := by kernel_rfl
theorem r106_0 : sxI it E106 A106 L106_2 0 (S106s x 0 a b c d e f g l) (kitV [1, 4, 29, 30] 2 IT (Z106_2 it K)) =
    br (decide (a < 1)) (K (I 1) [CFG a b c d e f g l, .cells 140 (ARR a b c d e f g), .cells 139 [I a, I 1, I 8]]) (br (decide (a > 8)) (IT (S106s 2 1 a b c d e f g l)) (IT (S106s x 1 a b c d e f g l))) := by kernel_rfl
theorem r106_1 : sxI it E106 A106 L106_2 0 (S106s x 1 a b c d e f g l) (kitV [1, 4, 29, 30] 2 IT (Z106_2 it K)) =
    br (decide (b < 1)) (K (I 1) [CFG a b c d e f g l, .cells 140 (ARR a b c d e f g), .cells 139 [I b, I 1, I 8]]) (br (decide (b > 8)) (IT (S106s 2 2 a b c d e f g l)) (IT (S106s x 2 a b c d e f g l))) := by kernel_rfl
theorem r106_2 : sxI it E106 A106 L106_2 0 (S106s x 2 a b c d e f g l) (kitV [1, 4, 29, 30] 2 IT (Z106_2 it K)) =
    br (decide (c < 1)) (K (I 1) [CFG a b c d e f g l, .cells 140 (ARR a b c d e f g), .cells 139 [I c, I 1, I 16]]) (br (decide (c > 16)) (IT (S106s 2 3 a b c d e f g l)) (IT (S106s x 3 a b c d e f g l))) := by kernel_rfl
theorem r106_3 : sxI it E106 A106 L106_2 0 (S106s x 3 a b c d e f g l) (kitV [1, 4, 29, 30] 2 IT (Z106_2 it K)) =
    br (decide (d < 1)) (K (I 1) [CFG a b c d e f g l, .cells 140 (ARR a b c d e f g), .cells 139 [I d, I 1, I 4]]) (br (decide (d > 4)) (IT (S106s 2 4 a b c d e f g l)) (IT (S106s x 4 a b c d e f g l))) := by kernel_rfl
theorem r106_4 : sxI it E106 A106 L106_2 0 (S106s x 4 a b c d e f g l) (kitV [1, 4, 29, 30] 2 IT (Z106_2 it K)) =
    br (decide (e < 1)) (K (I 1) [CFG a b c d e f g l, .cells 140 (ARR a b c d e f g), .cells 139 [I e, I 1, I 32]]) (br (decide (e > 32)) (IT (S106s 2 5 a b c d e f g l)) (IT (S106s x 5 a b c d e f g l))) := by kernel_rfl
theorem r106_5 : sxI it E106 A106 L106_2 0 (S106s x 5 a b c d e f g l) (kitV [1, 4, 29, 30] 2 IT (Z106_2 it K)) =
    br (decide (f < 0)) (K (I 1) [CFG a b c d e f g l, .cells 140 (ARR a b c d e f g), .cells 139 [I f, I 0, I 4]]) (br (decide (f > 4)) (IT (S106s 2 6 a b c d e f g l)) (IT (S106s x 6 a b c d e f g l))) := by kernel_rfl
theorem r106_6 : sxI it E106 A106 L106_2 0 (S106s x 6 a b c d e f g l) (kitV [1, 4, 29, 30] 2 IT (Z106_2 it K)) =
    br (decide (g < 1)) (K (I 1) [CFG a b c d e f g l, .cells 140 (ARR a b c d e f g), .cells 139 [I g, I 1, I 8]]) (br (decide (g > 8)) (IT (S106s 2 7 a b c d e f g l)) (IT (S106s x 7 a b c d e f g l))) := by kernel_rfl
theorem r106_7 : sxI it E106 A106 L106_2 0 (S106s x 7 a b c d e f g l) (kitV [1, 4, 29, 30] 2 IT (Z106_2 it K)) =
    br (decide (l < 1)) (K (I 1) [CFG a b c d e f g l, .cells 140 (ARR a b c d e f g)]) (br (decide (l > 1048576)) (K (I 2) [CFG a b c d e f g l, .cells 140 (ARR a b c d e f g)]) (K (I x) [CFG a b c d e f g l, .cells 140 (ARR a b c d e f g)])) := by kernel_rfl
end

abbrev IT106 (n : Nat) (x j a b c d e f g l : Int) : Option (SV × SH) := iter [1, 4, 29, 30] 2 (sxI itB E106 A106 L106_2 0) n (S106s x j a b c d e f g l) (Z106_2 itB fun r h => some (r, h))

theorem round106 {X : Option (SV × SH)} {Y : Int → Option (SV × SH)} {w : Int → Int} {p q : Bool} {x : Int} (h1 : ∃ H, X = some (I 1, H)) (hY : ∀ x, ∃ H, Y x = some (I (w x), H)) : ∃ H, br p X (br q (Y 2) (Y x)) = some (I (bif p then 1 else w (bif q then 2 else x)), H) := by
  cases p with
  | true => exact h1
  | false =>
    cases q with
    | true => exact hY 2
    | false => exact hY x

theorem last106 {p q : Bool} {x : Int} {H1 H2 H3 : SH} : ∃ H, br p (some (I 1, H1)) (br q (some (I 2, H2)) (some (I x, H3))) = some (I (bif p then 1 else bif q then 2 else x), H) := by
  cases p with
  | true => exact ⟨_, rfl⟩
  | false =>
    cases q with
    | true => exact ⟨_, rfl⟩
    | false => exact ⟨_, rfl⟩

def w7 (l x : Int) : Int := bif decide (l < 1) then 1 else bif decide (l > 1048576) then 2 else x
def w6 (g l x : Int) : Int := bif decide (g < 1) then 1 else w7 l (bif decide (g > 8) then 2 else x)
def w5 (f g l x : Int) : Int := bif decide (f < 0) then 1 else w6 g l (bif decide (f > 4) then 2 else x)
def w4 (e f g l x : Int) : Int := bif decide (e < 1) then 1 else w5 f g l (bif decide (e > 32) then 2 else x)
def w3 (d e f g l x : Int) : Int := bif decide (d < 1) then 1 else w4 e f g l (bif decide (d > 4) then 2 else x)
def w2 (c d e f g l x : Int) : Int := bif decide (c < 1) then 1 else w3 d e f g l (bif decide (c > 16) then 2 else x)
def w1 (b c d e f g l x : Int) : Int := bif decide (b < 1) then 1 else w2 c d e f g l (bif decide (b > 8) then 2 else x)
def w0 (a b c d e f g l x : Int) : Int := bif decide (a < 1) then 1 else w1 b c d e f g l (bif decide (a > 8) then 2 else x)

theorem v106 (a b c d e f g l : Int) : ∃ H, sxFn E106 A106 C106 [cfgS a b c d e f g l] [] (fun r h => some (r, h)) = some (I (chk a b c d e f g l), H) := by
  have h7 : ∀ n x, ∃ H, IT106 (n + 1) x 7 a b c d e f g l = some (I (w7 l x), H) := fun n x => by
    unfold IT106
    rw [iter_succ, r106_7]
    exact last106
  have h6 : ∀ n x, ∃ H, IT106 (n + 2) x 6 a b c d e f g l = some (I (w6 g l x), H) := fun n x => by
    unfold IT106
    rw [iter_succ, r106_6]
    exact round106 (Y := fun x => IT106 (n + 1) x 7 a b c d e f g l) ⟨_, rfl⟩ (h7 n)
  have h5 : ∀ n x, ∃ H, IT106 (n + 3) x 5 a b c d e f g l = some (I (w5 f g l x), H) := fun n x => by
    unfold IT106
    rw [iter_succ, r106_5]
    exact round106 (Y := fun x => IT106 (n + 2) x 6 a b c d e f g l) ⟨_, rfl⟩ (h6 n)
  have h4 : ∀ n x, ∃ H, IT106 (n + 4) x 4 a b c d e f g l = some (I (w4 e f g l x), H) := fun n x => by
    unfold IT106
    rw [iter_succ, r106_4]
    exact round106 (Y := fun x => IT106 (n + 3) x 5 a b c d e f g l) ⟨_, rfl⟩ (h5 n)
  have h3 : ∀ n x, ∃ H, IT106 (n + 5) x 3 a b c d e f g l = some (I (w3 d e f g l x), H) := fun n x => by
    unfold IT106
    rw [iter_succ, r106_3]
    exact round106 (Y := fun x => IT106 (n + 4) x 4 a b c d e f g l) ⟨_, rfl⟩ (h4 n)
  have h2 : ∀ n x, ∃ H, IT106 (n + 6) x 2 a b c d e f g l = some (I (w2 c d e f g l x), H) := fun n x => by
    unfold IT106
    rw [iter_succ, r106_2]
    exact round106 (Y := fun x => IT106 (n + 5) x 3 a b c d e f g l) ⟨_, rfl⟩ (h3 n)
  have h1 : ∀ n x, ∃ H, IT106 (n + 7) x 1 a b c d e f g l = some (I (w1 b c d e f g l x), H) := fun n x => by
    unfold IT106
    rw [iter_succ, r106_1]
    exact round106 (Y := fun x => IT106 (n + 6) x 2 a b c d e f g l) ⟨_, rfl⟩ (h2 n)
  have h0 : ∀ n x, ∃ H, IT106 (n + 8) x 0 a b c d e f g l = some (I (w0 a b c d e f g l x), H) := fun n x => by
    unfold IT106
    rw [iter_succ, r106_0]
    exact round106 (Y := fun x => IT106 (n + 7) x 1 a b c d e f g l) ⟨_, rfl⟩ (h1 n)
  obtain ⟨H, hH⟩ := h0 999999999992 0
  refine ⟨H, ?_⟩
  rw [← sxFnI_eq, r106]
  have e1 : w0 a b c d e f g l 0 = chk a b c d e f g l := by
    simp only [w0, w1, w2, w3, w4, w5, w6, w7, chk, or_cond]
    generalize decide (a < 1) = p0
    generalize decide (b < 1) = p1
    generalize decide (c < 1) = p2
    generalize decide (d < 1) = p3
    generalize decide (e < 1) = p4
    generalize decide (f < 0) = p5
    generalize decide (g < 1) = p6
    generalize decide (l < 1) = p7
    generalize decide (a > 8) = q0
    generalize decide (b > 8) = q1
    generalize decide (c > 16) = q2
    generalize decide (d > 4) = q3
    generalize decide (e > 32) = q4
    generalize decide (f > 4) = q5
    generalize decide (g > 8) = q6
    generalize decide (l > 1048576) = q7
    clear h0 h1 h2 h3 h4 h5 h6 h7 hH
    cases p0 <;> simp only [cond_true, cond_false]
    cases p1 <;> simp only [cond_true, cond_false]
    cases p2 <;> simp only [cond_true, cond_false]
    cases p3 <;> simp only [cond_true, cond_false]
    cases p4 <;> simp only [cond_true, cond_false]
    cases p5 <;> cases p6 <;> cases p7 <;> simp only [cond_true, cond_false]
    cases q7 <;> simp only [cond_true, cond_false]
    · revert q0 q1 q2 q3 q4 q5 q6; decide
    · revert q0 q1 q2 q3 q4 q5 q6; decide
  rw [e1] at hH
  exact hH

def S106 {Ω : Type} : Spec Ω := conSpec [.g cfgK] FChk
theorem g106 : Good1 Tryz.prog 66 S106 := conGood Tryz.func66 (by kernel_rfl) c106 e106 mix (A := A106) fun l r hr hl hF => by
  obtain ⟨x, rfl, hx⟩ := lenAs_one hl
  obtain ⟨a, b, c, d, e, f, g, i, rfl⟩ := eight hx
  simp only [FChk, Option.some.injEq, Prod.mk.injEq, true_and] at hF
  obtain ⟨rfl, rfl⟩ := hF
  obtain ⟨H, hH⟩ := v106 a b c d e f g i
  exact ⟨trivial, trivial, H, trim_none rfl _, hH⟩
end Go.Sx.Pr

/- Contracts: equality of lists of words, clone, the layout's list. -/
namespace Go.Sx.Pr
open Go Go.Sx Go.Proofs
set_option maxRecDepth 100000

/-! ### ref02.Same -/
abbrev S32s (i : Int) (xs ys : List Int) : SS := ⟨[(0, .d (.ints .u64 xs)), (1, .d (.ints .u64 ys)), (5, I i)], []⟩
section
variable {Ω : Type} (it : Itr Ω) (IT : SS → Option Ω) (K : SV → SH → Option Ω) (xs ys : List Int) (i : Int)
theorem r32 : sxFnI it E32 A32 C32 [.d (.ints .u64 xs), .d (.ints .u64 ys)] [] K =
    br (!((xs.length : Int) == (ys.length : Int))) (K (B false) []) (it [0, 1, 5] 0 (sxI it E32 A32 L32_2 0) (S32s 0 xs ys) (Z32_2 it K)) := by kernel_rfl
theorem r32_1 : sxI it E32 A32 L32_2 0 (S32s i xs ys) (kitV [0, 1, 5] 0 IT (Z32_2 it K)) =
    br (decide (i < (xs.length : Int))) (br (inB i xs.length) (br (inB i ys.length) (br (!(xs.getD i.toNat 0 == ys.getD i.toNat 0)) (K (B false) []) (IT (S32s (IntKind.wrap .i64 (i + 1)) xs ys))) none) none) (K (B true) []) := by kernel_rfl
end

theorem loop32 {Ω : Type} (K : SV → SH → Option Ω) {xs ys : List Int} (hl : xs.length = ys.length) (hb : xs.length < 1000000000) : ∀ (k i n : Nat), xs.length - i = k → i ≤ xs.length → k < n →
    iter [0, 1, 5] 0 (sxI itB E32 A32 L32_2 0) n (S32s i xs ys) (Z32_2 itB K) = K (B (decide (xs.drop i = ys.drop i))) []
  | k, i, 0, _, _, h => by omega
  | k, i, n + 1, hk, hi, hn => by
    rw [iter_succ, r32_1]
    by_cases h : i < xs.length
    · have h1 : decide ((i : Int) < (xs.length : Int)) = true := by simp; omega
      have h2 : inB (i : Int) xs.length = true := by simp [inB]; omega
      have h3 : inB (i : Int) ys.length = true := by simp [inB]; omega
      have h4 : IntKind.wrap .i64 ((i : Int) + 1) = ((i + 1 : Nat) : Int) := by rw [w64] <;> omega
      have hy : i < ys.length := by omega
      have e1 : xs.getD ((i : Int)).toNat 0 = xs[i] := by simp [List.getD_eq_getElem?_getD, h]
      have e2 : ys.getD ((i : Int)).toNat 0 = ys[i] := by simp [List.getD_eq_getElem?_getD, hy]
      rw [h1, h2, h3, h4, e1, e2]
      simp only [br, cond_true]
      have hd : (xs.drop i = ys.drop i) ↔ (xs[i] = ys[i] ∧ xs.drop (i + 1) = ys.drop (i + 1)) := by rw [List.drop_eq_getElem_cons h, List.drop_eq_getElem_cons hy, List.cons.injEq]
      have hd' : decide (xs.drop i = ys.drop i) = decide (xs[i] = ys[i] ∧ xs.drop (i + 1) = ys.drop (i + 1)) := decide_eq_decide.2 hd
      rw [hd']
      by_cases e : xs[i] = ys[i]
      · have : (!(xs[i] == ys[i])) = false := by simp [e]
        rw [this]
        simp only [cond_false]
        rw [loop32 K hl hb (k - 1) (i + 1) n (by omega) (by omega) (by omega)]
        simp only [e, true_and]
      · have : (!(xs[i] == ys[i])) = true := by simp [e]
        rw [this]
        simp only [e, false_and, cond_true, decide_false]
    · have h1 : decide ((i : Int) < (xs.length : Int)) = false := by simp; omega
      rw [h1]
      simp only [br, cond_false]
      rw [List.drop_eq_nil_of_le (by omega), List.drop_eq_nil_of_le (by omega)]
      simp

theorem v32 {Ω : Type} (K : SV → SH → Option Ω) (xs ys : List Int) (hb : xs.length < 1000000000) : sxFn E32 A32 C32 [.d (.ints .u64 xs), .d (.ints .u64 ys)] [] K = K (B (decide (xs = ys))) [] := by
  rw [← sxFnI_eq, r32]
  by_cases h : xs.length = ys.length
  · have : (!((xs.length : Int) == (ys.length : Int))) = false := by simp [h]
    rw [this]
    simp only [br, cond_false]
    have := loop32 K h hb xs.length 0 big (by omega) (by omega) (by unfold big; omega)
    simpa [itB] using this
  · have : (!((xs.length : Int) == (ys.length : Int))) = true := by simp; omega
    rw [this]
    have : xs ≠ ys := fun e => h (by rw [e])
    simp [br, this]

def FSame : List (List Int) → Option (Bool × SV × SH)
  | [xs, ys] => some (decide (xs.length < 1000000000), B (decide (xs = ys)), [])
  | _ => none
def S32 {Ω : Type} : Spec Ω := conSpec [.s .u64, .s .u64] FSame
theorem g32 : Good1 Tryz.prog 19 S32 := conGood Tryz.func19 (by kernel_rfl) c32 e32 mix (A := A32) fun l r hr hl hF => by
  obtain ⟨xs, q, rfl, _, ys, q', rfl, _, hq⟩ := hl
  simp only [lenAs] at hq
  subst hq
  simp only [FSame, Option.some.injEq, Prod.mk.injEq] at hF
  obtain ⟨h1, rfl, rfl⟩ := hF
  exact ⟨trivial, trivial, _, trim_none rfl _, v32 _ xs ys (by simpa using h1)⟩

/-! ### slices.Clone -/
def S65 {Ω : Type} : Spec Ω := sClone .u64 22 8
theorem g65 : Good1 Tryz.prog 33 S65 := clone_good Tryz.func33 (by kernel_rfl) c65 (A := A65) e65 mix
  (fun cc => by kernel_rfl)
  (fun a c => ⟨[.dead, .rowi 22 .u64 []], 1, by kernel_rfl, rfl⟩)
  (fun x r => ⟨[.dead, .rowi 22 .u64 (x :: r)], 1, by
    have : sxFn E65 A65 C65 [.d (.ints .u64 (x :: r))] [] (fun r h => some (r, h)) = br (fits (0 + List.length (x :: r)) 8) (some (.own 1, [.dead, .rowi 22 .u64 (x :: r)])) none := by kernel_rfl
    rw [this]
    simp, rfl⟩)
end Go.Sx.Pr

/- Contract: the layout's list. -/
namespace Go.Sx.Pr
open Go Go.Sx Go.Proofs
set_option maxRecDepth 100000

abbrev dI (x : Int) : DV := .v (.int .i64 x)
def ap (l : List DV) : Nat → Nat → DV := fun i j => lkD l (i * 3 + j)
abbrev AL (m : Nat) (q : Nat → Nat → DV) (a b c d e f g l : Int) : SH := [CFG a b c d e f g l, .dead, .dead, .row 94 3 m q]
abbrev T20 (t : Nat) (i : Int) (m : Nat) (q : Nat → Nat → DV) (a b c d e f g l : Int) : SS := ⟨[(1, .ptr 0 0), (3, .own 3), (t, I i)], AL m q a b c d e f g l⟩
def q20 : Nat → Nat → DV := ap [dI 0, dI 0, dI 0, dI 0, dI 1, dI 0, dI 0, dI 2, dI 0]

section
variable {Ω : Type} (it : Itr Ω) (IT : SS → Option Ω) (K : SV → SH → Option Ω) (KK : SE → SS → Option Ω) (a b c d e f g l : Int) (i j : Int) (m : Nat) (q : Nat → Nat → DV)
theorem r20 : sxFnI it E20 A20 C20 [cfgS a b c d e f g l] [] K = it [1, 3, 4] 2 (sxI it E20 A20 L20_13 0) ⟨[(1, .ptr 0 0), (3, .cs 1 0 3 3 3), (4, I 0)], [CFG a b c d e f g l, .cells 94 [I 0, I 0, I 0, I 0, I 1, I 0, I 0, I 2, I 0]]⟩ (Z20_13 it K) := by kernel_rfl
theorem r20_0 : sxI it E20 A20 L20_13 0 ⟨[(1, .ptr 0 0), (3, .cs 1 0 3 3 3), (4, I 0)], [CFG a b c d e f g l, .cells 94 [I 0, I 0, I 0, I 0, I 1, I 0, I 0, I 2, I 0]]⟩ (kitV [1, 3, 4] 2 IT (Z20_13 it K)) =
    br (decide (0 < a)) (IT (T20 4 1 4 (catF 3 q20 (ap [dI 1, dI 0, dI 0])) a b c d e f g l)) (it [1, 3, 5] 2 (sxI it E20 A20 L20_11 2) ⟨[(1, .ptr 0 0), (3, .cs 1 0 3 3 3), (5, I 0)], [CFG a b c d e f g l, .cells 94 [I 0, I 0, I 0, I 0, I 1, I 0, I 0, I 2, I 0]]⟩ (Z20_11 it K)) := by kernel_rfl
theorem r20_1 : sxI it E20 A20 L20_13 0 (T20 4 i m q a b c d e f g l) (kitV [1, 3, 4] 2 IT (Z20_13 it K)) =
    br (decide (i < a)) (br (fits (m + 1) 24) (IT (T20 4 (IntKind.wrap .i64 (i + 1)) (m + 1) (catF m q (ap [dI 1, dI i, dI 0])) a b c d e f g l)) none) (it [1, 3, 5] 4 (sxI it E20 A20 L20_11 2) (T20 5 0 m q a b c d e f g l) (Z20_11 it K)) := by kernel_rfl
theorem r20_2 : sxI it E20 A20 L20_11 2 (T20 5 i m q a b c d e f g l) (kitV [1, 3, 5] 4 IT (Z20_11 it K)) =
    br (decide (i < b)) (br (fits (m + 1) 24) (IT (T20 5 (IntKind.wrap .i64 (i + 1)) (m + 1) (catF m q (ap [dI 2, dI i, dI 0])) a b c d e f g l)) none) (it [1, 3, 6] 4 (sxI it E20 A20 L20_9 4) (T20 6 0 m q a b c d e f g l) (Z20_9 it K)) := by kernel_rfl
theorem r20_3 : sxI it E20 A20 L20_9 4 (T20 6 i m q a b c d e f g l) (kitV [1, 3, 6] 4 IT (Z20_9 it K)) =
    br (decide (i < e)) (br (fits (m + 2) 24) (IT (T20 6 (IntKind.wrap .i64 (i + 1)) (m + 2) (catF m q (ap [dI 3, dI i, dI 0, dI 4, dI i, dI 0])) a b c d e f g l)) none) (it [1, 3, 7] 4 (sxI it E20 A20 L20_7 6) (T20 7 0 m q a b c d e f g l) (Z20_7 it K)) := by kernel_rfl
abbrev T20i (i j : Int) (m : Nat) (q : Nat → Nat → DV) (a b c d e f g l : Int) : SS := ⟨[(1, .ptr 0 0), (3, .own 3), (7, I i), (8, I j)], [CFG a b c d e f g l, .dead, .dead, .row 94 3 m q, .cells 94 [I 5, I i, I 0]]⟩
theorem r20_4 : sxI it E20 A20 L20_7 6 (T20 7 i m q a b c d e f g l) KK =
    br (decide (i < IntKind.wrap .i64 (b * c))) (br (fits (m + 1) 24) (it [1, 3, 7, 8] 5 (sxI it E20 A20 L20_3 8) (T20i i 0 (m + 1) (catF m q (ap [dI 5, dI i, dI 0])) a b c d e f g l) (Z20_3 it KK)) none) (KK (.exit 6) (T20 7 i m q a b c d e f g l)) := by kernel_rfl
theorem r20_5 : sxI it E20 A20 L20_3 8 (T20i i j m q a b c d e f g l) (kitV [1, 3, 7, 8] 5 IT (Z20_3 it KK)) =
    br (decide (j < d)) (br (fits (m + 1) 24) (IT (T20i i (IntKind.wrap .i64 (j + 1)) (m + 1) (catF m q (ap [dI 6, dI i, dI j])) a b c d e f g l)) none)
      (KK .norm ⟨[(1, .ptr 0 0), (3, .own 3), (7, I (IntKind.wrap .i64 (i + 1))), (8, I j)], [CFG a b c d e f g l, .dead, .dead, .row 94 3 m q, .cells 94 [I 5, I i, I 0]]⟩) := by kernel_rfl
theorem r20_6 (i' : Int) : gc [1, 3, 7] 4 ⟨[(1, .ptr 0 0), (3, .own 3), (7, I i), (8, I j)], [CFG a b c d e f g l, .dead, .dead, .row 94 3 m q, .cells 94 [I 5, I i', I 0]]⟩ = T20 7 i m q a b c d e f g l := by kernel_rfl
theorem r20_7 : Z20_7 it K (.exit 6) (T20 7 i m q a b c d e f g l) = K (.own 3) (AL m q a b c d e f g l) := by kernel_rfl
end

def d1 (i : Nat) : List DV := [dI 1, dI i, dI 0]
def d2 (i : Nat) : List DV := [dI 2, dI i, dI 0]
def d3 (i : Nat) : List DV := [dI 3, dI i, dI 0, dI 4, dI i, dI 0]
def d6 (t : Int) (j : Nat) : List DV := [dI 6, dI t, dI j]
/-- The blocks: slot 5 and its words, i of them. -/
def blkA (D : Nat) (q : Nat → Nat → DV) (m : Nat) : Nat → Nat → Nat → DV
  | 0 => q
  | i + 1 => acc 3 (catF (m + (1 + D) * i) (blkA D q m i) (ap [dI 5, dI i, dI 0])) (m + (1 + D) * i + 1) 1 (d6 i) D

section
variable {Ω : Type} (K : SV → SH → Option Ω) (KK : SE → SS → Option Ω) (a b c d e f g l : Int) (q : Nat → Nat → DV)

theorem st1 (A : Nat) (hA : A ≤ 1000) (h1 : 1 ≤ A) : sxFnI itB E20 A20 C20 [cfgS A b c d e f g l] [] K =
    itB [1, 3, 5] 4 (sxI itB E20 A20 L20_11 2) (T20 5 0 (3 + 1 * A) (acc 3 q20 3 1 d1 A) A b c d e f g l) (Z20_11 itB K) := by
  have h0 : ∀ i, i < A - 1 → ∀ I : SS → Option Ω, sxI itB E20 A20 L20_13 0 (T20 4 ((i + 1 : Nat) : Int) (3 + 1 * (i + 1)) (acc 3 q20 3 1 d1 (i + 1)) A b c d e f g l) (kitV [1, 3, 4] 2 I (Z20_13 itB K)) =
      I (T20 4 ((i + 1 + 1 : Nat) : Int) (3 + 1 * (i + 1 + 1)) (acc 3 q20 3 1 d1 (i + 1 + 1)) A b c d e f g l) := fun i hi I => by
    rw [r20_1, decide_eq_true (by omega), fits_of (by omega), w64 (by omega) (by omega)]; rfl
  obtain ⟨N, hN, h2⟩ := itB_first (f := sxI itB E20 A20 L20_13 0) (lv := [1, 3, 4]) (n0 := 2) (k := Z20_13 itB K) (s := ⟨[(1, .ptr 0 0), (3, .cs 1 0 3 3 3), (4, I 0)], [CFG A b c d e f g l, .cells 94 [I 0, I 0, I 0, I 0, I 1, I 0, I 0, I 2, I 0]]⟩)
  obtain ⟨n, hn⟩ := loop_n (f := sxI itB E20 A20 L20_13 0) (lv := [1, 3, 4]) (n0 := 2) (k := Z20_13 itB K) (fun i => T20 4 ((i + 1 : Nat) : Int) (3 + 1 * (i + 1)) (acc 3 q20 3 1 d1 (i + 1)) A b c d e f g l) N (A - 1) (by omega) h0
  rw [r20, h2, r20_0, decide_eq_true (by omega)]
  simp only [br, cond_true]
  refine Eq.trans hn ?_
  rw [show A - 1 + 1 = A by omega, r20_1, decide_eq_false (by omega)]
  simp only [br, cond_false]

theorem st2 (Bn m : Nat) (hB : Bn ≤ 1000) (hm : m ≤ 1000000) : itB [1, 3, 5] 4 (sxI itB E20 A20 L20_11 2) (T20 5 0 m q a Bn c d e f g l) (Z20_11 itB K) =
    itB [1, 3, 6] 4 (sxI itB E20 A20 L20_9 4) (T20 6 0 (m + 1 * Bn) (acc 3 q m 1 d2 Bn) a Bn c d e f g l) (Z20_9 itB K) := by
  obtain ⟨n, hn⟩ := loop_n (f := sxI itB E20 A20 L20_11 2) (lv := [1, 3, 5]) (n0 := 4) (k := Z20_11 itB K) (fun i => T20 5 (i : Int) (m + 1 * i) (acc 3 q m 1 d2 i) a Bn c d e f g l) big Bn (by unfold big; omega) (fun i hi I => by
    rw [r20_2, decide_eq_true (by omega), fits_of (by omega), w64 (by omega) (by omega)]; rfl)
  rw [itB_def]
  refine Eq.trans hn ?_
  rw [r20_2, decide_eq_false (by omega)]
  simp only [br, cond_false]

theorem st3 (En m : Nat) (hB : En ≤ 1000) (hm : m ≤ 1000000) : itB [1, 3, 6] 4 (sxI itB E20 A20 L20_9 4) (T20 6 0 m q a b c d En f g l) (Z20_9 itB K) =
    itB [1, 3, 7] 4 (sxI itB E20 A20 L20_7 6) (T20 7 0 (m + 2 * En) (acc 3 q m 2 d3 En) a b c d En f g l) (Z20_7 itB K) := by
  obtain ⟨n, hn⟩ := loop_n (f := sxI itB E20 A20 L20_9 4) (lv := [1, 3, 6]) (n0 := 4) (k := Z20_9 itB K) (fun i => T20 6 (i : Int) (m + 2 * i) (acc 3 q m 2 d3 i) a b c d En f g l) big En (by unfold big; omega) (fun i hi I => by
    rw [r20_3, decide_eq_true (by omega), fits_of (by omega), w64 (by omega) (by omega)]; rfl)
  rw [itB_def]
  refine Eq.trans hn ?_
  rw [r20_3, decide_eq_false (by omega)]
  simp only [br, cond_false]

theorem st5 (t Dn m : Nat) (ht : t ≤ 1000) (hB : Dn ≤ 1000) (hm : m ≤ 1000000) : itB [1, 3, 7, 8] 5 (sxI itB E20 A20 L20_3 8) (T20i t 0 m q a b c Dn e f g l) (Z20_3 itB KK) =
    KK .norm ⟨[(1, .ptr 0 0), (3, .own 3), (7, I ((t + 1 : Nat) : Int)), (8, I Dn)], [CFG a b c Dn e f g l, .dead, .dead, .row 94 3 (m + 1 * Dn) (acc 3 q m 1 (d6 t) Dn), .cells 94 [I 5, I t, I 0]]⟩ := by
  obtain ⟨n, hn⟩ := loop_n (f := sxI itB E20 A20 L20_3 8) (lv := [1, 3, 7, 8]) (n0 := 5) (k := Z20_3 itB KK) (fun i => T20i t (i : Int) (m + 1 * i) (acc 3 q m 1 (d6 t) i) a b c Dn e f g l) big Dn (by unfold big; omega) (fun i hi I => by
    rw [r20_5, decide_eq_true (by omega), fits_of (by omega), w64 (by omega) (by omega)]; rfl)
  rw [itB_def]
  refine Eq.trans hn ?_
  rw [r20_5, decide_eq_false (by omega)]
  simp only [br, cond_false]
  rw [w64 (by omega) (by omega)]
  rfl

theorem st4 (Bn Cn Dn m : Nat) (hB : Bn * Cn ≤ 1000) (hD : Dn ≤ 100) (hm : m ≤ 10000) : itB [1, 3, 7] 4 (sxI itB E20 A20 L20_7 6) (T20 7 0 m q a Bn Cn Dn e f g l) (Z20_7 itB K) =
    K (.own 3) (AL (m + (1 + Dn) * (Bn * Cn)) (blkA Dn q m (Bn * Cn)) a Bn Cn Dn e f g l) := by
  have hw : IntKind.wrap .i64 ((Bn : Int) * Cn) = ((Bn * Cn : Nat) : Int) := by
    rw [← Int.natCast_mul, w64] <;> omega
  obtain ⟨n, hn⟩ := loop_n (f := sxI itB E20 A20 L20_7 6) (lv := [1, 3, 7]) (n0 := 4) (k := Z20_7 itB K) (fun i => T20 7 (i : Int) (m + (1 + Dn) * i) (blkA Dn q m i) a Bn Cn Dn e f g l) big (Bn * Cn) (by unfold big; omega) (fun i hi I => by
    have hmul : (1 + Dn) * i ≤ 101 * 1000 := Nat.mul_le_mul (by omega) (by omega)
    rw [r20_4, hw, decide_eq_true (by omega), fits_of (by omega)]
    simp only [br, cond_true]
    rw [st5 _ _ _ _ _ _ _ _ _ _ _ _ (by omega) (by omega) (by omega)]
    simp only [kitV]
    rw [r20_6]
    have e : m + (1 + Dn) * i + 1 + 1 * Dn = m + (1 + Dn) * (i + 1) := by rw [Nat.mul_succ]; omega
    rw [e]
    rfl)
  rw [itB_def]
  refine Eq.trans hn ?_
  rw [r20_4, hw, decide_eq_false (by omega)]
  simp only [br, cond_false, kitV]
  rw [r20_7]
end

/-- How many words there are. -/
def sizeN (A Bn Cn D E : Nat) : Nat := 3 + 1 * A + 1 * Bn + 2 * E + (1 + D) * (Bn * Cn)
def qAll (A Bn Cn D E : Nat) : Nat → Nat → DV := blkA D (acc 3 (acc 3 (acc 3 q20 3 1 d1 A) (3 + 1 * A) 1 d2 Bn) (3 + 1 * A + 1 * Bn) 2 d3 E) (3 + 1 * A + 1 * Bn + 2 * E) (Bn * Cn)

theorem v20 {Ω : Type} (K : SV → SH → Option Ω) {a b c d e f g l : Int} (h : chk a b c d e f g l = 0) : sxFn E20 A20 C20 [cfgS a b c d e f g l] [] K =
    K (.own 3) (AL (sizeN a.toNat b.toNat c.toNat d.toNat e.toNat) (qAll a.toNat b.toNat c.toNat d.toNat e.toNat) a b c d e f g l) := by
  obtain ⟨⟨a1, a2⟩, ⟨b1, b2⟩, ⟨c1, c2⟩, ⟨g1, g2⟩, ⟨e1, e2⟩, _⟩ := chk_zero h
  obtain ⟨A, rfl⟩ := Int.eq_ofNat_of_zero_le (show 0 ≤ a by omega)
  obtain ⟨Bn, rfl⟩ := Int.eq_ofNat_of_zero_le (show 0 ≤ b by omega)
  obtain ⟨Cn, rfl⟩ := Int.eq_ofNat_of_zero_le (show 0 ≤ c by omega)
  obtain ⟨Dn, rfl⟩ := Int.eq_ofNat_of_zero_le (show 0 ≤ d by omega)
  obtain ⟨En, rfl⟩ := Int.eq_ofNat_of_zero_le (show 0 ≤ e by omega)
  have hBC : Bn * Cn ≤ 8 * 16 := Nat.mul_le_mul (by omega) (by omega)
  rw [← sxFnI_eq, st1 _ _ _ _ _ _ _ _ A (by omega) (by omega), st2 _ _ _ _ _ _ _ _ _ _ _ (by omega) (by omega), st3 _ _ _ _ _ _ _ _ _ _ _ (by omega) (by omega), st4 _ _ _ _ _ _ _ _ _ _ _ (by omega) (by omega) (by omega)]
  rfl

end Go.Sx.Pr

namespace Go.Sx.Pr
open Go Go.Sx Go.Proofs
set_option maxRecDepth 100000
/-- (coatcheck/plan.Plan).slabs -/
def C125 : CF := ⟨1, [(2, none)],
 .seq (.reg false [⟨some 1, .box 87 8 (.t 0), none, 0⟩,
   ⟨some 2, .mv (.c (.d (.v (.int .i64 0)))), none, 0⟩])
 (.seq (.reg false [⟨some 3, .fa 0 (.t 1), none, 0⟩,
   ⟨some 4, .fa 0 (.t 3), none, 0⟩,
   ⟨some 5, .ld 1 false (.t 4), none, 0⟩,
   ⟨some 6, .bin .add (.c (.d (.v (.int .i64 3)))) (.t 5), none, 0⟩,
   ⟨some 2, .mv (.t 6), none, 0⟩])
 (.ret))⟩
theorem c125 : coF Tryz.prog Tryz.f147 = some C125 := by kernel_rfl
def A125 : Ann := { keep := [0, 1, 2], live := [] }
def E125 {Ω : Type} : Env Ω := enil
theorem e125 : GoodE Tryz.prog E125 := GoodE.nil
def S125 {Ω : Type} : Spec Ω := inl E125 A125 C125 false
theorem g125 : Good1 Tryz.prog 147 S125 := Good1.inl e125 mix Tryz.func147 (by kernel_rfl) c125 A125 false
/-- (coatcheck/plan.Plan).entries -/
def C127 : CF := ⟨1, [(2, none)],
 .seq (.reg false [⟨some 1, .box 87 8 (.t 0), none, 0⟩,
   ⟨some 2, .mv (.c (.d (.v (.int .i64 0)))), none, 0⟩])
 (.seq (.reg true [⟨some 3, .ld 8 true (.t 1), none, 0⟩,
   ⟨some 4, .call (.c (.fn (.func 147) [] [])) [.t 3], none, 1⟩,
   ⟨some 5, .fa 0 (.t 1), none, 0⟩,
   ⟨some 6, .fa 1 (.t 5), none, 4⟩,
   ⟨some 7, .ld 1 false (.t 6), none, 12⟩,
   ⟨some 8, .bin .add (.t 4) (.t 7), none, 31⟩,
   ⟨some 2, .mv (.t 8), none, 63⟩])
 (.ret))⟩
theorem c127 : coF Tryz.prog Tryz.f107 = some C127 := by kernel_rfl
def A127 : Ann := { keep := [0, 1, 2], live := [] }
def E127 {Ω : Type} : Env Ω := econs 147 S125 (enil)
theorem e127 : GoodE Tryz.prog E127 := GoodE.cons g125 (GoodE.nil)
def S127 {Ω : Type} : Spec Ω := inl E127 A127 C127 false
theorem g127 : Good1 Tryz.prog 107 S127 := Good1.inl e127 mix Tryz.func107 (by kernel_rfl) c127 A127 false
/-- (coatcheck/plan.Plan).blocks -/
def C107 : CF := ⟨1, [(2, none)],
 .seq (.reg false [⟨some 1, .box 87 8 (.t 0), none, 0⟩,
   ⟨some 2, .mv (.c (.d (.v (.int .i64 0)))), none, 0⟩])
 (.seq (.reg true [⟨some 3, .ld 8 true (.t 1), none, 0⟩,
   ⟨some 4, .call (.c (.fn (.func 107) [] [])) [.t 3], none, 1⟩,
   ⟨some 5, .fa 0 (.t 1), none, 0⟩,
   ⟨some 6, .fa 4 (.t 5), none, 4⟩,
   ⟨some 7, .ld 1 false (.t 6), none, 12⟩,
   ⟨some 8, .bin .mul (.c (.d (.v (.int .i64 2)))) (.t 7), none, 28⟩,
   ⟨some 9, .bin .add (.t 4) (.t 8), none, 63⟩,
   ⟨some 2, .mv (.t 9), none, 127⟩])
 (.ret))⟩
theorem c107 : coF Tryz.prog Tryz.f104 = some C107 := by kernel_rfl
def A107 : Ann := { keep := [0, 1, 2], live := [] }
def E107 {Ω : Type} : Env Ω := econs 107 S127 (enil)
theorem e107 : GoodE Tryz.prog E107 := GoodE.cons g127 (GoodE.nil)
def S107 {Ω : Type} : Spec Ω := inl E107 A107 C107 false
theorem g107 : Good1 Tryz.prog 104 S107 := Good1.inl e107 mix Tryz.func104 (by kernel_rfl) c107 A107 false
/-- (coatcheck/plan.Plan).Total -/
def C108 : CF := ⟨1, [(2, none)],
 .seq (.reg false [⟨some 1, .box 87 8 (.t 0), none, 0⟩,
   ⟨some 2, .mv (.c (.d (.v (.int .i64 0)))), none, 0⟩])
 (.seq (.seq (.reg false [⟨some 3, .fa 0 (.t 1), none, 0⟩,
   ⟨some 4, .ld 8 true (.t 3), none, 0⟩,
   ⟨some 5, .call (.c (.fn (.func 66) [] [])) [.t 4], none, 0⟩,
   ⟨some 6, .eq .int true (.t 5) (.c (.d (.v (.int .i64 0)))), none, 0⟩])
 (.cond 6 (.seq (.reg false [⟨some 2, .mv (.c (.d (.v (.int .i64 0)))), none, 0⟩])
   (.ret))
   (.skip)))
 (.seq (.reg false [⟨some 7, .fa 0 (.t 1), none, 0⟩,
   ⟨some 8, .fa 1 (.t 7), none, 0⟩,
   ⟨some 9, .ld 1 false (.t 8), none, 0⟩,
   ⟨some 10, .fa 0 (.t 1), none, 0⟩,
   ⟨some 11, .fa 2 (.t 10), none, 0⟩,
   ⟨some 12, .ld 1 false (.t 11), none, 0⟩,
   ⟨some 13, .bin .mul (.t 9) (.t 12), none, 0⟩,
   ⟨some 2, .mv (.t 13), none, 0⟩])
 (.ret)))⟩
theorem c108 : coF Tryz.prog Tryz.f105 = some C108 := by kernel_rfl
def A108 : Ann := { keep := [0, 1, 2, 6], live := [] }
def E108 {Ω : Type} : Env Ω := econs 66 S106 (enil)
theorem e108 : GoodE Tryz.prog E108 := GoodE.cons g106 (GoodE.nil)
def S108 {Ω : Type} : Spec Ω := inl E108 A108 C108 false
theorem g108 : Good1 Tryz.prog 105 S108 := Good1.inl e108 mix Tryz.func105 (by kernel_rfl) c108 A108 false
/-- (coatcheck/plan.Plan).Size -/
def C64 : CF := ⟨1, [(2, none)],
 .seq (.reg false [⟨some 1, .box 87 8 (.t 0), none, 0⟩,
   ⟨some 2, .mv (.c (.d (.v (.int .i64 0)))), none, 0⟩])
 (.seq (.seq (.reg false [⟨some 3, .fa 0 (.t 1), none, 0⟩,
   ⟨some 4, .ld 8 true (.t 3), none, 0⟩,
   ⟨some 5, .call (.c (.fn (.func 66) [] [])) [.t 4], none, 0⟩,
   ⟨some 6, .eq .int true (.t 5) (.c (.d (.v (.int .i64 0)))), none, 0⟩])
 (.cond 6 (.seq (.reg false [⟨some 2, .mv (.c (.d (.v (.int .i64 0)))), none, 0⟩])
   (.ret))
   (.skip)))
 (.seq (.reg true [⟨some 7, .ld 8 true (.t 1), none, 0⟩,
   ⟨some 8, .call (.c (.fn (.func 104) [] [])) [.t 7], none, 1⟩,
   ⟨some 9, .ld 8 true (.t 1), none, 0⟩,
   ⟨some 10, .call (.c (.fn (.func 105) [] [])) [.t 9], none, 7⟩,
   ⟨some 11, .fa 0 (.t 1), none, 0⟩,
   ⟨some 12, .fa 3 (.t 11), none, 16⟩,
   ⟨some 13, .ld 1 false (.t 12), none, 48⟩,
   ⟨some 14, .bin .add (.c (.d (.v (.int .i64 1)))) (.t 13), none, 112⟩,
   ⟨some 15, .bin .mul (.t 10) (.t 14), none, 255⟩,
   ⟨some 16, .bin .add (.t 8) (.t 15), none, 511⟩,
   ⟨some 2, .mv (.t 16), none, 1023⟩])
 (.ret)))⟩
theorem c64 : coF Tryz.prog Tryz.f68 = some C64 := by kernel_rfl
def A64 : Ann := { keep := [0, 1, 2, 6], live := [] }
def E64 {Ω : Type} : Env Ω := econs 66 S106 (econs 104 S107 (econs 105 S108 (enil)))
theorem e64 : GoodE Tryz.prog E64 := GoodE.cons g106 (GoodE.cons g107 (GoodE.cons g108 (GoodE.nil)))
end Go.Sx.Pr

/- Contract: the number of words. -/
namespace Go.Sx.Pr
open Go Go.Sx Go.Proofs
set_option maxRecDepth 100000

/-- The number of words of a valid configuration, else 0. -/
def szZ (a b c d e f g l : Int) : Int := bif chk a b c d e f g l == 0 then (sizeN a.toNat b.toNat c.toNat d.toNat e.toNat : Int) else 0

theorem r64 {Ω : Type} (it : Itr Ω) (K : SV → SH → Option Ω) (a b c d e f g l : Int) :
    sxFnI it E64 A64 C64 [cfgS a b c d e f g l] [] K =
    br (!chk a b c d e f g l == 0) (K (I 0) [.cells 87 [I a, I b, I c, I d, I e, I f, I g, U l]]) (br (!chk a b c d e f g l == 0) (K (I (IntKind.wrap .i64 (IntKind.wrap .i64 (IntKind.wrap .i64 (IntKind.wrap .i64 (3 + a) + b) + IntKind.wrap .i64 (2 * e)) + IntKind.wrap .i64 (0 * IntKind.wrap .i64 (1 + d))))) [.cells 87 [I a, I b, I c, I d, I e, I f, I g, U l]]) (K (I (IntKind.wrap .i64 (IntKind.wrap .i64 (IntKind.wrap .i64 (IntKind.wrap .i64 (3 + a) + b) + IntKind.wrap .i64 (2 * e)) + IntKind.wrap .i64 (IntKind.wrap .i64 (b * c) * IntKind.wrap .i64 (1 + d))))) [.cells 87 [I a, I b, I c, I d, I e, I f, I g, U l]])) := by kernel_rfl

theorem v64 {Ω : Type} (K : SV → SH → Option Ω) (a b c d e f g l : Int) : sxFn E64 A64 C64 [cfgS a b c d e f g l] [] K = K (I (szZ a b c d e f g l)) [.cells 87 [I a, I b, I c, I d, I e, I f, I g, U l]] := by
  rw [← sxFnI_eq, r64]
  unfold szZ
  by_cases h : chk a b c d e f g l = 0
  · have h0 : (chk a b c d e f g l == 0) = true := by simp [h]
    rw [h0]
    simp only [br, Bool.not_true, cond_false, cond_true]
    obtain ⟨⟨a1, a2⟩, ⟨b1, b2⟩, ⟨c1, c2⟩, ⟨g1, g2⟩, ⟨e1, e2⟩, _⟩ := chk_zero h
    obtain ⟨A, rfl⟩ := Int.eq_ofNat_of_zero_le (show 0 ≤ a by omega)
    obtain ⟨Bn, rfl⟩ := Int.eq_ofNat_of_zero_le (show 0 ≤ b by omega)
    obtain ⟨Cn, rfl⟩ := Int.eq_ofNat_of_zero_le (show 0 ≤ c by omega)
    obtain ⟨Dn, rfl⟩ := Int.eq_ofNat_of_zero_le (show 0 ≤ d by omega)
    obtain ⟨En, rfl⟩ := Int.eq_ofNat_of_zero_le (show 0 ≤ e by omega)
    have hBC : Bn * Cn ≤ 8 * 16 := Nat.mul_le_mul (by omega) (by omega)
    have hP : (Bn * Cn) * (1 + Dn) ≤ 128 * 5 := Nat.mul_le_mul (by omega) (by omega)
    have e1 : IntKind.wrap .i64 ((Bn : Int) * Cn) = ((Bn * Cn : Nat) : Int) := by rw [← Int.natCast_mul, w64] <;> omega
    have e2 : IntKind.wrap .i64 (1 + (Dn : Int)) = ((1 + Dn : Nat) : Int) := by rw [w64] <;> omega
    have e3 : IntKind.wrap .i64 (((Bn * Cn : Nat) : Int) * ((1 + Dn : Nat) : Int)) = ((Bn * Cn * (1 + Dn) : Nat) : Int) := by rw [← Int.natCast_mul, w64] <;> omega
    rw [e1, e2, e3]
    have e4 : IntKind.wrap .i64 (3 + (A : Int)) = 3 + A := by rw [w64] <;> omega
    have e5 : IntKind.wrap .i64 (3 + (A : Int) + Bn) = 3 + A + Bn := by rw [w64] <;> omega
    have e6 : IntKind.wrap .i64 (2 * (En : Int)) = 2 * En := by rw [w64] <;> omega
    have e7 : IntKind.wrap .i64 (3 + (A : Int) + Bn + 2 * En) = 3 + A + Bn + 2 * En := by rw [w64] <;> omega
    have e8 : IntKind.wrap .i64 (3 + (A : Int) + Bn + 2 * En + ((Bn * Cn * (1 + Dn) : Nat) : Int)) = 3 + A + Bn + 2 * En + ((Bn * Cn * (1 + Dn) : Nat) : Int) := by rw [w64] <;> omega
    rw [e4, e5, e6, e7, e8]
    simp only [Int.toNat_natCast, sizeN]
    have e9 : (1 + Dn) * (Bn * Cn) = Bn * Cn * (1 + Dn) := Nat.mul_comm _ _
    rw [e9]
    congr 4
    omega
  · have h0 : (chk a b c d e f g l == 0) = false := by simp [h]
    rw [h0]
    simp only [br, Bool.not_false, cond_true, cond_false]

def FSize : List (List Int) → Option (Bool × SV × SH)
  | [[a, b, c, d, e, f, g, l]] => some (true, I (szZ a b c d e f g l), [])
  | _ => none
def S64 {Ω : Type} : Spec Ω := conSpec [.g cfgK] FSize
theorem g64 : Good1 Tryz.prog 68 S64 := conGood Tryz.func68 (by kernel_rfl) c64 e64 mix (A := A64) fun l r hr hl hF => by
  obtain ⟨x, rfl, hx⟩ := lenAs_one hl
  obtain ⟨a, b, c, d, e, f, g, i, rfl⟩ := eight hx
  simp only [FSize, Option.some.injEq, Prod.mk.injEq, true_and] at hF
  obtain ⟨rfl, rfl⟩ := hF
  exact ⟨trivial, trivial, _, trim_none rfl _, v64 _ a b c d e f g i⟩
end Go.Sx.Pr

namespace Go.Sx.Pr
open Go Go.Sx Go.Proofs
set_option maxRecDepth 100000
/-- coatcheck/plan.New -/
def C63 : CF := ⟨1, [(2, some (8, true)), (3, none)],
 .seq (.reg false [⟨some 1, .box 24 8 (.t 0), none, 0⟩,
   ⟨some 2, .newc 87 [.d (.v (.int .i64 0)), .d (.v (.int .i64 0)), .d (.v (.int .i64 0)), .d (.v (.int .i64 0)), .d (.v (.int .i64 0)), .d (.v (.int .i64 0)), .d (.v (.int .i64 0)), .d (.v (.int .u64 0))], none, 0⟩,
   ⟨some 3, .mv (.c (.d (.v (.int .i64 0)))), none, 0⟩])
 (.seq (.seq (.reg false [⟨some 5, .ld 8 true (.t 1), none, 0⟩,
   ⟨some 6, .call (.c (.fn (.func 66) [] [])) [.t 5], none, 0⟩,
   ⟨some 4, .mv (.t 6), none, 0⟩])
 (.seq (.reg false [⟨some 7, .mv (.t 4), none, 0⟩,
   ⟨some 8, .eq .int true (.t 7) (.c (.d (.v (.int .i64 0)))), none, 0⟩])
 (.cond 8 (.seq (.reg false [⟨some 9, .bld [.d (.v (.int .i64 0)), .d (.v (.int .i64 0)), .d (.v (.int .i64 0)), .d (.v (.int .i64 0)), .d (.v (.int .i64 0)), .d (.v (.int .i64 0)), .d (.v (.int .i64 0)), .d (.v (.int .u64 0))] [], none, 0⟩,
     ⟨some 10, .mv (.t 4), none, 0⟩,
     ⟨none, .st 8 (.t 2) (.t 9), none, 0⟩,
     ⟨some 3, .mv (.t 10), none, 0⟩])
   (.ret))
   (.skip))))
 (.seq (.reg false [⟨some 11, .ld 8 true (.t 1), none, 0⟩,
   ⟨some 12, .bld [.d (.v (.int .i64 0)), .d (.v (.int .i64 0)), .d (.v (.int .i64 0)), .d (.v (.int .i64 0)), .d (.v (.int .i64 0)), .d (.v (.int .i64 0)), .d (.v (.int .i64 0)), .d (.v (.int .u64 0))] [(0, 8, .t 11)], none, 0⟩,
   ⟨none, .st 8 (.t 2) (.t 12), none, 0⟩,
   ⟨some 3, .mv (.c (.d (.v (.int .i64 0)))), none, 0⟩])
 (.ret)))⟩
theorem c63 : coF Tryz.prog Tryz.f67 = some C63 := by kernel_rfl
def A63 : Ann := { keep := [0, 1, 2, 3, 4, 8], live := [] }
def E63 {Ω : Type} : Env Ω := econs 66 S106 (enil)
theorem e63 : GoodE Tryz.prog E63 := GoodE.cons g106 (GoodE.nil)
def S63 {Ω : Type} : Spec Ω := inl E63 A63 C63 false
theorem g63 : Good1 Tryz.prog 67 S63 := Good1.inl e63 mix Tryz.func67 (by kernel_rfl) c63 A63 false
/-- coatcheck/pack.Head -/
def C109 : CF := ⟨2, [(4, none)],
 .seq (.reg false [⟨some 4, .mv (.c (.d (.v (.int .u64 0)))), none, 0⟩])
 (.seq (.reg false [⟨some 5, .mv (.t 1), none, 0⟩,
   ⟨some 6, .bin .shl (.t 5) (.c (.d (.v (.int .u64 32)))), none, 0⟩,
   ⟨some 7, .mv (.t 0), none, 0⟩,
   ⟨some 8, .bin .add (.t 7) (.c (.d (.v (.int .i64 1)))), none, 0⟩,
   ⟨some 9, .conv .u32 (.t 8), none, 0⟩,
   ⟨some 10, .conv .u64 (.t 9), none, 0⟩,
   ⟨some 11, .bin .or (.t 6) (.t 10), none, 0⟩,
   ⟨some 4, .mv (.t 11), none, 0⟩])
 (.ret))⟩
theorem c109 : coF Tryz.prog Tryz.f69 = some C109 := by kernel_rfl
def A109 : Ann := { keep := [0, 1, 4], live := [] }
def E109 {Ω : Type} : Env Ω := enil
theorem e109 : GoodE Tryz.prog E109 := GoodE.nil
def S109 {Ω : Type} : Spec Ω := inl E109 A109 C109 false
theorem g109 : Good1 Tryz.prog 69 S109 := Good1.inl e109 mix Tryz.func69 (by kernel_rfl) c109 A109 false
/-- coatcheck/pack.Entry -/
def C110 : CF := ⟨3, [(6, none)],
 .seq (.reg false [⟨some 6, .mv (.c (.d (.v (.int .u64 0)))), none, 0⟩])
 (.seq (.reg false [⟨some 7, .mv (.t 0), none, 0⟩,
   ⟨some 8, .bin .shl (.t 7) (.c (.d (.v (.int .u64 20)))), none, 0⟩,
   ⟨some 9, .mv (.t 1), none, 0⟩,
   ⟨some 10, .bin .add (.t 9) (.c (.d (.v (.int .i64 1)))), none, 0⟩,
   ⟨some 11, .conv .u16 (.t 10), none, 0⟩,
   ⟨some 12, .conv .u64 (.t 11), none, 0⟩,
   ⟨some 13, .bin .shl (.t 12) (.c (.d (.v (.int .u64 4)))), none, 0⟩,
   ⟨some 14, .bin .or (.t 8) (.t 13), none, 0⟩,
   ⟨some 15, .mv (.t 2), none, 0⟩,
   ⟨some 16, .conv .u8 (.t 15), none, 0⟩,
   ⟨some 17, .bin .shl (.t 16) (.c (.d (.v (.int .u64 4)))), none, 0⟩,
   ⟨some 18, .bin .shr (.t 17) (.c (.d (.v (.int .u64 4)))), none, 0⟩,
   ⟨some 19, .conv .u64 (.t 18), none, 0⟩,
   ⟨some 20, .bin .or (.t 14) (.t 19), none, 0⟩,
   ⟨some 6, .mv (.t 20), none, 0⟩])
 (.ret))⟩
theorem c110 : coF Tryz.prog Tryz.f70 = some C110 := by kernel_rfl
def A110 : Ann := { keep := [0, 1, 2, 6], live := [] }
def E110 {Ω : Type} : Env Ω := enil
theorem e110 : GoodE Tryz.prog E110 := GoodE.nil
def S110 {Ω : Type} : Spec Ω := inl E110 A110 C110 false
theorem g110 : Good1 Tryz.prog 70 S110 := Good1.inl e110 mix Tryz.func70 (by kernel_rfl) c110 A110 false
/-- (coatcheck/plan.Plan).at -/
def C122 : CF := ⟨5, [(10, none)],
 .seq (.reg false [⟨some 5, .box 87 8 (.t 0), none, 0⟩,
   ⟨some 10, .mv (.c (.d (.v (.int .i64 0)))), none, 0⟩])
 (.seq (.seq (.reg false [⟨some 11, .mv (.t 2), none, 0⟩,
   ⟨some 12, .bin .lss (.t 11) (.c (.d (.v (.int .i64 0)))), none, 0⟩,
   ⟨some 13, .mv (.t 12), none, 0⟩,
   ⟨some 14, .mv (.t 2), some (13, false), 0⟩,
   ⟨some 15, .mv (.t 3), some (13, false), 0⟩,
   ⟨some 16, .bin .geq (.t 14) (.t 15), some (13, false), 0⟩,
   ⟨some 17, .pick (.t 13) (.c (.d (.v (.bool true)))) (.t 16), none, 0⟩,
   ⟨some 18, .mv (.t 17), none, 0⟩,
   ⟨some 19, .fa 0 (.t 5), some (18, false), 0⟩,
   ⟨some 20, .ld 8 true (.t 19), some (18, false), 0⟩,
   ⟨some 21, .call (.c (.fn (.func 66) [] [])) [.t 20], some (18, false), 0⟩,
   ⟨some 22, .eq .int true (.t 21) (.c (.d (.v (.int .i64 0)))), some (18, false), 0⟩,
   ⟨some 23, .pick (.t 18) (.c (.d (.v (.bool true)))) (.t 22), none, 0⟩])
 (.cond 23 (.seq (.reg false [⟨some 10, .mv (.c (.d (.v (.int .i64 (-1))))), none, 0⟩])
   (.ret))
   (.skip)))
 (.seq (.reg false [⟨some 24, .mv (.t 1), none, 0⟩,
   ⟨some 25, .mv (.t 2), none, 0⟩,
   ⟨some 26, .mv (.t 4), none, 0⟩,
   ⟨some 27, .bin .mul (.t 25) (.t 26), none, 0⟩,
   ⟨some 28, .bin .add (.t 24) (.t 27), none, 0⟩,
   ⟨some 10, .mv (.t 28), none, 0⟩])
 (.ret)))⟩
theorem c122 : coF Tryz.prog Tryz.f106 = some C122 := by kernel_rfl
def A122 : Ann := { keep := [0, 1, 2, 3, 4, 5, 10, 23], live := [] }
def E122 {Ω : Type} : Env Ω := econs 66 S106 (enil)
theorem e122 : GoodE Tryz.prog E122 := GoodE.cons g106 (GoodE.nil)
def S122 {Ω : Type} : Spec Ω := inl E122 A122 C122 false
theorem g122 : Good1 Tryz.prog 106 S122 := Good1.inl e122 mix Tryz.func106 (by kernel_rfl) c122 A122 false
/-- (coatcheck/plan.Plan).Entry -/
def C111 : CF := ⟨2, [(4, none)],
 .seq (.reg false [⟨some 2, .box 87 8 (.t 0), none, 0⟩,
   ⟨some 4, .mv (.c (.d (.v (.int .i64 0)))), none, 0⟩])
 (.seq (.reg true [⟨some 5, .ld 8 true (.t 2), none, 0⟩,
   ⟨some 6, .ld 8 true (.t 2), none, 0⟩,
   ⟨some 7, .call (.c (.fn (.func 107) [] [])) [.t 6], none, 2⟩,
   ⟨some 8, .mv (.t 1), none, 0⟩,
   ⟨some 9, .fa 0 (.t 2), none, 0⟩,
   ⟨some 10, .fa 4 (.t 9), none, 16⟩,
   ⟨some 11, .ld 1 false (.t 10), none, 48⟩,
   ⟨some 12, .call (.c (.fn (.func 106) [] [])) [.t 5, .t 7, .t 8, .t 11, .c (.d (.v (.int .i64 2)))], none, 127⟩,
   ⟨some 4, .mv (.t 12), none, 255⟩])
 (.ret))⟩
theorem c111 : coF Tryz.prog Tryz.f71 = some C111 := by kernel_rfl
def A111 : Ann := { keep := [0, 1, 2, 4], live := [] }
def E111 {Ω : Type} : Env Ω := econs 106 S122 (econs 107 S127 (enil))
theorem e111 : GoodE Tryz.prog E111 := GoodE.cons g122 (GoodE.cons g127 (GoodE.nil))
def S111 {Ω : Type} : Spec Ω := inl E111 A111 C111 false
theorem g111 : Good1 Tryz.prog 71 S111 := Good1.inl e111 mix Tryz.func71 (by kernel_rfl) c111 A111 false
/-- (coatcheck/plan.Plan).EntryLink -/
def C112 : CF := ⟨2, [(4, none)],
 .seq (.reg false [⟨some 2, .box 87 8 (.t 0), none, 0⟩,
   ⟨some 4, .mv (.c (.d (.v (.int .i64 0)))), none, 0⟩])
 (.seq (.reg true [⟨some 5, .ld 8 true (.t 2), none, 0⟩,
   ⟨some 6, .ld 8 true (.t 2), none, 0⟩,
   ⟨some 7, .call (.c (.fn (.func 107) [] [])) [.t 6], none, 2⟩,
   ⟨some 8, .bin .add (.t 7) (.c (.d (.v (.int .i64 1)))), none, 6⟩,
   ⟨some 9, .mv (.t 1), none, 0⟩,
   ⟨some 10, .fa 0 (.t 2), none, 0⟩,
   ⟨some 11, .fa 4 (.t 10), none, 32⟩,
   ⟨some 12, .ld 1 false (.t 11), none, 96⟩,
   ⟨some 13, .call (.c (.fn (.func 106) [] [])) [.t 5, .t 8, .t 9, .t 12, .c (.d (.v (.int .i64 2)))], none, 255⟩,
   ⟨some 4, .mv (.t 13), none, 511⟩])
 (.ret))⟩
theorem c112 : coF Tryz.prog Tryz.f72 = some C112 := by kernel_rfl
def A112 : Ann := { keep := [0, 1, 2, 4], live := [] }
def E112 {Ω : Type} : Env Ω := econs 106 S122 (econs 107 S127 (enil))
theorem e112 : GoodE Tryz.prog E112 := GoodE.cons g122 (GoodE.cons g127 (GoodE.nil))
def S112 {Ω : Type} : Spec Ω := inl E112 A112 C112 false
theorem g112 : Good1 Tryz.prog 72 S112 := Good1.inl e112 mix Tryz.func72 (by kernel_rfl) c112 A112 false
def K68_1 : CC := .seq (.reg false [⟨some 47, .mv (.t 5), none, 0⟩,
   ⟨some 2, .mv (.t 47), none, 0⟩])
 (.ret)
def K68_2 : CC := .seq (.cond 25 (.skip)
   (.exit 0))
 (.seq (.block 1 (.seq (.reg false [⟨some 26, .mv (.t 24), none, 0⟩,
     ⟨some 6, .mv (.t 26), none, 0⟩])
   (.seq (.reg false [⟨some 27, .mv (.t 5), none, 0⟩,
     ⟨some 28, .ld 8 true (.t 3), none, 0⟩,
     ⟨some 29, .mv (.t 6), none, 0⟩,
     ⟨some 30, .call (.c (.fn (.func 71) [] [])) [.t 28, .t 29], none, 0⟩,
     ⟨some 31, .call (.c (.fn (.func 70) [] [])) [.c (.d (.v (.int .u64 1))), .c (.d (.v (.int .i64 (-1)))), .c (.d (.v (.int .i64 0)))], none, 0⟩,
     ⟨some 32, .ixs 1 (.t 27) (.t 30), none, 0⟩,
     ⟨none, .st 1 (.t 32) (.t 31), none, 0⟩])
   (.seq (.reg false [⟨some 33, .mv (.t 6), none, 0⟩,
     ⟨some 34, .bin .add (.t 33) (.c (.d (.v (.int .i64 1)))), none, 0⟩,
     ⟨some 35, .fa 4 (.t 1), none, 0⟩,
     ⟨some 36, .ld 1 false (.t 35), none, 0⟩,
     ⟨some 37, .bin .lss (.t 34) (.t 36), none, 0⟩])
   (.cond 37 (.reg false [⟨some 38, .mv (.t 5), none, 0⟩,
       ⟨some 39, .ld 8 true (.t 3), none, 0⟩,
       ⟨some 40, .mv (.t 6), none, 0⟩,
       ⟨some 41, .call (.c (.fn (.func 72) [] [])) [.t 39, .t 40], none, 0⟩,
       ⟨some 42, .mv (.t 6), none, 0⟩,
       ⟨some 43, .bin .add (.t 42) (.c (.d (.v (.int .i64 2)))), none, 0⟩,
       ⟨some 44, .conv .u64 (.t 43), none, 0⟩,
       ⟨some 45, .ixs 1 (.t 38) (.t 41), none, 0⟩,
       ⟨none, .st 1 (.t 45) (.t 44), none, 0⟩])
     (.skip))))))
 (.reg false [⟨some 46, .bin .add (.t 24) (.c (.d (.v (.int .i64 1)))), none, 0⟩,
   ⟨some 24, .mv (.t 46), none, 0⟩]))
def K68_3 : CC := .reg false [⟨some 25, .bin .lss (.t 24) (.t 23), none, 0⟩]
def L68_4 : CC := .seq K68_3 K68_2
def K68_5 : CC := .reg false [⟨some 22, .fa 4 (.t 1), none, 0⟩,
   ⟨some 23, .ld 1 false (.t 22), none, 0⟩,
   ⟨some 24, .mv (.c (.d (.v (.int .i64 0)))), none, 0⟩]
def K68_6 : CC := .reg false [⟨some 17, .mv (.t 5), none, 0⟩,
   ⟨some 18, .mv (.t 5), none, 0⟩,
   ⟨some 19, .call (.c (.fn (.func 69) [] [])) [.c (.d (.v (.int .i64 0))), .c (.d (.v (.int .u64 0)))], none, 0⟩,
   ⟨some 20, .ixs 1 (.t 17) (.c (.d (.v (.int .i64 0)))), none, 0⟩,
   ⟨none, .st 1 (.t 20) (.c (.d (.v (.int .u64 2)))), none, 0⟩,
   ⟨some 21, .ixs 1 (.t 18) (.c (.d (.v (.int .i64 2)))), none, 0⟩,
   ⟨none, .st 1 (.t 21) (.t 19), none, 0⟩]
def K68_7 : CC := .reg false [⟨some 14, .ld 8 true (.t 3), none, 0⟩,
   ⟨some 15, .call (.c (.fn (.func 68) [] [])) [.t 14], none, 0⟩,
   ⟨some 16, .mks 22 1 8 (some .u64) [.d (.v (.int .u64 0))] (.t 15), none, 0⟩,
   ⟨some 5, .mv (.t 16), none, 0⟩]
def K68_8 : CC := .seq (.reg false [⟨some 12, .mv (.t 4), none, 0⟩,
   ⟨some 13, .eq .int true (.t 12) (.c (.d (.v (.int .i64 0)))), none, 0⟩])
 (.cond 13 (.seq (.reg false [⟨some 2, .mv (.c (.d (.v (.slice none 0 0)))), none, 0⟩])
   (.ret))
   (.skip))
def K68_9 : CC := .reg false [⟨some 8, .ld 8 true (.t 1), none, 0⟩,
   ⟨some 9, .call (.c (.fn (.func 67) [] [])) [.t 8], none, 0⟩,
   ⟨some 7, .mv (.t 9), none, 0⟩,
   ⟨some 10, .ext 0 (.t 7), none, 0⟩,
   ⟨some 11, .ext 1 (.t 7), none, 0⟩,
   ⟨some 3, .newc 87 [.d (.v (.int .i64 0)), .d (.v (.int .i64 0)), .d (.v (.int .i64 0)), .d (.v (.int .i64 0)), .d (.v (.int .i64 0)), .d (.v (.int .i64 0)), .d (.v (.int .i64 0)), .d (.v (.int .u64 0))], none, 0⟩,
   ⟨none, .st 8 (.t 3) (.t 10), none, 0⟩,
   ⟨some 4, .mv (.t 11), none, 0⟩]
def K68_10 : CC := .reg false [⟨some 1, .box 24 8 (.t 0), none, 0⟩,
   ⟨some 2, .mv (.c (.d (.v (.slice none 0 0)))), none, 0⟩]
/-- coatcheck/plan.First -/
def C68 : CF := ⟨1, [(2, none)],
 .seq K68_10 (.seq K68_9 (.seq K68_8 (.seq K68_7 (.seq K68_6 (.seq (.seq K68_5 (.block 0 (.loop L68_4))) K68_1)))))⟩
theorem c68 : coF Tryz.prog Tryz.f54 = some C68 := by kernel_rfl
def A68 : Ann := { keep := [0, 1, 2, 3, 4, 5, 6, 13, 23, 24, 25, 37], live := [(0, [1, 3, 5, 23, 24])] }
def E68 {Ω : Type} : Env Ω := econs 67 S63 (econs 68 S64 (econs 69 S109 (econs 70 S110 (econs 71 S111 (econs 72 S112 (enil))))))
theorem e68 : GoodE Tryz.prog E68 := GoodE.cons g63 (GoodE.cons g64 (GoodE.cons g109 (GoodE.cons g110 (GoodE.cons g111 (GoodE.cons g112 (GoodE.nil))))))
def Z68_4 {Ω : Type} (it : Itr Ω) (K : SV → SH → Option Ω) : SE → SS → Option Ω := kblk 0 (kseq it E68 A68 K68_1 0 (kfn C68 K))
end Go.Sx.Pr

/- A law's arguments as symbolic values. -/
namespace Go.Sx

def getI : DV → Int
  | .v (.int _ x) => x
  | _ => 0

theorem wt_int {P : Program} {n : Nat} {t : TypeId} {k : IntKind} (hu : P.underlying t = some (.int k)) {l : List DV} (h : Wt P (n + 1) t l) : ∃ x, l = [.v (.int k x)] ∧ (Lit.int k x).wf = true := by
  simpa only [Wt, hu] using h

/-- A struct of integers. -/
theorem wt_ints {P : Program} {n : Nat} : ∀ {ks : List IntKind} {l : List DV}, l.length = ks.length → (∀ (j : Nat) (k : IntKind), ks[j]? = some k → ∃ x, (l.drop j).take 1 = [.v (.int k x)] ∧ (Lit.int k x).wf = true) →
    ∃ xs : List Int, xs.length = ks.length ∧ l = List.zipWith (fun k x => DV.v (.int k x)) ks xs ∧ ∀ (j : Nat) (k : IntKind), ks[j]? = some k → (Lit.int k (xs.getD j 0)).wf = true
  | [], l, hl, _ => ⟨[], rfl, by simpa using hl, by simp⟩
  | k :: ks, l, hl, h => by
    match l, hl with
    | y :: r, hl =>
      obtain ⟨x, h1, h2⟩ := h 0 k rfl
      obtain ⟨xs, e1, e2, e3⟩ := wt_ints (P := P) (n := n) (ks := ks) (l := r) (by simpa using hl) (fun j k' hk => by simpa using h (j + 1) k' (by simpa using hk))
      refine ⟨x :: xs, by simp [e1], ?_, fun j k' hk => ?_⟩
      · simp only [List.zipWith_cons_cons]
        rw [← e2]
        simp at h1
        rw [h1]
      · cases j with
        | zero => simp at hk; subst hk; simpa using h2
        | succ j => simpa using e3 j k' (by simpa using hk)
    | [], hl => simp at hl

theorem agg_rep {cx : Cx} {w : World} {l : List DV} {v : Value} (h : DRepL cx.fz w l v.cells.toList) (hl : l.length ≠ 1) : SRep cx w (.agg (l.map .d)) v := by
  have key : ∀ (l : List DV) (c : List Value), DRepL cx.fz w l c → SRepL cx w (l.map .d) c := by
    intro l
    induction l with
    | nil =>
      intro c h
      have : c = [] := by simpa using h.1.symm
      subst this; simp [SRepL]
    | cons x r ih =>
      intro c h
      match c, h with
      | v :: c, h =>
        simp only [List.map_cons, SRepL, SRep]
        refine ⟨by simpa using h.2 0 (by simp), ih c ⟨by simpa using h.1, fun j hj => by simpa using h.2 (j + 1) (by simpa using hj)⟩⟩
      | [], h => have := h.1; simp at this
  cases v with
  | agg c =>
    simp only [SRep]
    exact ⟨c.toList, by simp, key l _ (by simpa [Value.cells] using h)⟩
  | _ => exact absurd (by simpa [Value.cells] using h.1) hl

/-- Fields of one cell, integers of these kinds. -/
def fieldsInt (P : Program) : List Field → List IntKind → Nat → Bool
  | [], [], _ => true
  | f :: fs, k :: ks, j => Nat.beq f.offset j && (Nat.beq (P.cellsOf f.type) 1 && ((match P.underlying f.type with | some (.int k') => kEq k k' | _ => false) && fieldsInt P fs ks (j + 1)))
  | _, _, _ => false

theorem fieldsInt_wt {P : Program} {n : Nat} {l : List DV} : ∀ {fs : List Field} {ks : List IntKind} {j0 : Nat}, fieldsInt P fs ks j0 = true → (∀ f ∈ fs, Wt P (n + 1) f.type ((l.drop f.offset).take (P.cellsOf f.type))) →
    ∀ (j : Nat) (k : IntKind), ks[j]? = some k → ∃ x, (l.drop (j0 + j)).take 1 = [.v (.int k x)] ∧ (Lit.int k x).wf = true
  | [], [], j0, _, _, j, k, hk => by simp at hk
  | f :: fs, k0 :: ks, j0, h, hw, j, k, hk => by
    simp only [fieldsInt, Bool.and_eq_true] at h
    obtain ⟨h1, h2, h3, h4⟩ := h
    cases j with
    | zero =>
      simp only [List.getElem?_cons_zero, Option.some.injEq] at hk
      subst hk
      have := hw f (by simp)
      rw [nbeq.1 h1, nbeq.1 h2] at this
      split at h3
      · rename_i k' hu
        rw [← kEq_eq h3] at hu
        exact wt_int hu (by simpa using this)
      · cases h3
    | succ j =>
      have := fieldsInt_wt h4 (fun f hf => hw f (by simp [hf])) j k (by simpa using hk)
      rwa [show j0 + 1 + j = j0 + (j + 1) by omega] at this
  | [], _ :: _, _, h, _, _, _, _ => by simp [fieldsInt] at h
  | _ :: _, [], _, h, _, _, _, _ => by simp [fieldsInt] at h

theorem wt_struct {P : Program} {n : Nat} {t : TypeId} {fs : Array Field} {ks : List IntKind} (hu : P.underlying t = some (.struct fs)) (hc : P.cellsOf t = ks.length) (hf : fieldsInt P fs.toList ks 0 = true) {l : List DV} (h : Wt P (n + 2) t l) :
    ∃ xs : List Int, xs.length = ks.length ∧ l = List.zipWith (fun k x => DV.v (.int k x)) ks xs ∧ ∀ (j : Nat) (k : IntKind), ks[j]? = some k → (Lit.int k (xs.getD j 0)).wf = true := by
  rw [show n + 2 = (n + 1) + 1 from rfl] at h
  simp only [Wt, hu] at h
  exact wt_ints (P := P) (n := n) (h.1.trans hc) fun j k hk => by simpa using fieldsInt_wt hf h.2 j k hk
end Go.Sx
