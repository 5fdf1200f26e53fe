/- Contracts of the functions with loops: both checks of a configuration, the layout's list, equality of lists, clone. -/
import Derived.Test.YtpnnnklahanecaaSxLoop
import Derived.Test.YtpnnnklahanecaaP1
namespace Go.Sx.Pr
open Go Go.Sx Go.Proofs
set_option maxRecDepth 100000

abbrev cfgK : List IntKind := [.i64, .i64, .i64, .i64, .i64, .i64, .i64, .u64]
abbrev CFG (a b c d e f g l : Int) : SO := .cells 24 [I a, I b, I c, I d, I e, I f, I g, U l]
abbrev cfgS (a b c d e f g l : Int) : SV := .agg [I a, I b, I c, I d, I e, I f, I g, U l]

/-- Check: workers a, slabs b, blocks c, words d, entries e, rack f, bag g, last l. -/
def chk (a b c d e f g l : Int) : Int :=
  bif decide (a < 1) || (decide (b < 1) || (decide (c < 1) || (decide (d < 1) || (decide (e < 1) || (decide (g < 1) || (decide (f < 0) || decide (l < 1))))))) then 1 else
  bif decide (a > 8) || (decide (b > 8) || (decide (c > 16) || (decide (d > 4) || (decide (e > 32) || (decide (g > 8) || (decide (f > 4) || decide (l > 1048576))))))) then 2 else 0

theorem chk_zero {a b c d e f g l : Int} (h : chk a b c d e f g l = 0) : (1 ≤ a ∧ a ≤ 8) ∧ (1 ≤ b ∧ b ≤ 8) ∧ (1 ≤ c ∧ c ≤ 16) ∧ (1 ≤ d ∧ d ≤ 4) ∧ (1 ≤ e ∧ e ≤ 32) ∧ (0 ≤ f ∧ f ≤ 4) ∧ (1 ≤ g ∧ g ≤ 8) ∧ (1 ≤ l ∧ l ≤ 1048576) := by
  unfold chk at h
  rw [cond_eq_ite, cond_eq_ite] at h
  split at h
  · cases h
  · split at h
    · cases h
    · rename_i h1 h2
      simp only [Bool.or_eq_true, decide_eq_true_eq, not_or] at h1 h2
      omega

def FChk : List (List Int) → Option (Bool × SV × SH)
  | [[a, b, c, d, e, f, g, l]] => some (true, I (chk a b c d e f g l), [])
  | _ => none

theorem or_cond {α : Type} (a b : Bool) (x y : α) : (bif a || b then x else y) = bif a then x else bif b then x else y := by cases a <;> rfl

theorem br_KI {Ω : Type} (K : SV → SH → Option Ω) (b : Bool) (x y : Int) (H : SH) : br b (K (I x) H) (K (I y) H) = K (I (bif b then x else y)) H := by cases b <;> rfl

theorem nf19 {Ω : Type} (it : Itr Ω) (K : SV → SH → Option Ω) (a b c d e f g l : Int) : sxFnI it E19 A19 C19 [cfgS a b c d e f g l] [] K =
    br (decide (a < 1)) (K (I 1) [CFG a b c d e f g l]) (br (decide (b < 1)) (K (I 1) [CFG a b c d e f g l]) (br (decide (c < 1)) (K (I 1) [CFG a b c d e f g l]) (br (decide (d < 1)) (K (I 1) [CFG a b c d e f g l]) (br (decide (e < 1)) (K (I 1) [CFG a b c d e f g l]) (br (decide (g < 1)) (K (I 1) [CFG a b c d e f g l]) (br (decide (f < 0)) (K (I 1) [CFG a b c d e f g l]) (br (decide (l < 1)) (K (I 1) [CFG a b c d e f g l])
    (br (decide (a > 8)) (K (I 2) [CFG a b c d e f g l]) (br (decide (b > 8)) (K (I 2) [CFG a b c d e f g l]) (br (decide (c > 16)) (K (I 2) [CFG a b c d e f g l]) (br (decide (d > 4)) (K (I 2) [CFG a b c d e f g l]) (br (decide (e > 32)) (K (I 2) [CFG a b c d e f g l]) (br (decide (g > 8)) (K (I 2) [CFG a b c d e f g l]) (br (decide (f > 4)) (K (I 2) [CFG a b c d e f g l]) (br (decide (l > 1048576)) (K (I 2) [CFG a b c d e f g l]) (K (I 0) [CFG a b c d e f g l])))))))))))))))) := by kernel_rfl

theorem v19 {Ω : Type} (K : SV → SH → Option Ω) (a b c d e f g l : Int) : sxFn E19 A19 C19 [cfgS a b c d e f g l] [] K = K (I (chk a b c d e f g l)) [CFG a b c d e f g l] := by
  rw [← sxFnI_eq, nf19]
  unfold chk
  simp only [or_cond, br_KI]

theorem lenAs_one {l : List (List Int)} {ks : List IntKind} (h : lenAs [.g ks] l) : ∃ a, l = [a] ∧ a.length = ks.length := by
  obtain ⟨a, r, rfl, h1, h2⟩ := h
  simp only [lenAs] at h2
  subst h2
  exact ⟨a, rfl, h1⟩

theorem eight {α : Type} {l : List α} (h : l.length = 8) : ∃ a b c d e f g i, l = [a, b, c, d, e, f, g, i] := by
  match l, h with
  | [a, b, c, d, e, f, g, i], _ => exact ⟨a, b, c, d, e, f, g, i, rfl⟩

def S19 {Ω : Type} : Spec Ω := conSpec [.g cfgK] FChk
theorem g19 : Good1 Try.prog 19 S19 := conGood Try.func19 (by kernel_rfl) c19 e19 mix (A := A19) fun l r hr hl hF => by
  obtain ⟨x, rfl, hx⟩ := lenAs_one hl
  obtain ⟨a, b, c, d, e, f, g, i, rfl⟩ := eight hx
  simp only [FChk, Option.some.injEq, Prod.mk.injEq, true_and] at hF
  obtain ⟨rfl, rfl⟩ := hF
  exact ⟨trivial, trivial, _, trim_none rfl _, v19 _ a b c d e f g i⟩

/-! ### plan.Check -/
abbrev ARR (a b c d e f g : Int) : List SV := [I a, I 1, I 8, I b, I 1, I 8, I c, I 1, I 16, I d, I 1, I 4, I e, I 1, I 32, I f, I 0, I 4, I g, I 1, I 8]
abbrev S106s (x i a b c d e f g l : Int) : SS := ⟨[(1, .ptr 0 0), (4, I x), (29, .agg (ARR a b c d e f g)), (30, I i)], [CFG a b c d e f g l, .cells 161 (ARR a b c d e f g)]⟩

section
variable {Ω : Type} (it : Itr Ω) (IT : SS → Option Ω) (K : SV → SH → Option Ω) (x a b c d e f g l : Int)
theorem r106 : sxFnI it E106 A106 C106 [cfgS a b c d e f g l] [] K = it [1, 4, 29, 30] 2 (sxI it E106 A106 L106_2 0) (S106s 0 0 a b c d e f g l) (Z106_2 it K) := by kernel_rfl
theorem r106_0 : sxI it E106 A106 L106_2 0 (S106s x 0 a b c d e f g l) (kitV [1, 4, 29, 30] 2 IT (Z106_2 it K)) =
    br (decide (a < 1)) (K (I 1) [CFG a b c d e f g l, .cells 161 (ARR a b c d e f g), .cells 160 [I a, I 1, I 8]]) (br (decide (a > 8)) (IT (S106s 2 1 a b c d e f g l)) (IT (S106s x 1 a b c d e f g l))) := by kernel_rfl
theorem r106_1 : sxI it E106 A106 L106_2 0 (S106s x 1 a b c d e f g l) (kitV [1, 4, 29, 30] 2 IT (Z106_2 it K)) =
    br (decide (b < 1)) (K (I 1) [CFG a b c d e f g l, .cells 161 (ARR a b c d e f g), .cells 160 [I b, I 1, I 8]]) (br (decide (b > 8)) (IT (S106s 2 2 a b c d e f g l)) (IT (S106s x 2 a b c d e f g l))) := by kernel_rfl
theorem r106_2 : sxI it E106 A106 L106_2 0 (S106s x 2 a b c d e f g l) (kitV [1, 4, 29, 30] 2 IT (Z106_2 it K)) =
    br (decide (c < 1)) (K (I 1) [CFG a b c d e f g l, .cells 161 (ARR a b c d e f g), .cells 160 [I c, I 1, I 16]]) (br (decide (c > 16)) (IT (S106s 2 3 a b c d e f g l)) (IT (S106s x 3 a b c d e f g l))) := by kernel_rfl
theorem r106_3 : sxI it E106 A106 L106_2 0 (S106s x 3 a b c d e f g l) (kitV [1, 4, 29, 30] 2 IT (Z106_2 it K)) =
    br (decide (d < 1)) (K (I 1) [CFG a b c d e f g l, .cells 161 (ARR a b c d e f g), .cells 160 [I d, I 1, I 4]]) (br (decide (d > 4)) (IT (S106s 2 4 a b c d e f g l)) (IT (S106s x 4 a b c d e f g l))) := by kernel_rfl
theorem r106_4 : sxI it E106 A106 L106_2 0 (S106s x 4 a b c d e f g l) (kitV [1, 4, 29, 30] 2 IT (Z106_2 it K)) =
    br (decide (e < 1)) (K (I 1) [CFG a b c d e f g l, .cells 161 (ARR a b c d e f g), .cells 160 [I e, I 1, I 32]]) (br (decide (e > 32)) (IT (S106s 2 5 a b c d e f g l)) (IT (S106s x 5 a b c d e f g l))) := by kernel_rfl
theorem r106_5 : sxI it E106 A106 L106_2 0 (S106s x 5 a b c d e f g l) (kitV [1, 4, 29, 30] 2 IT (Z106_2 it K)) =
    br (decide (f < 0)) (K (I 1) [CFG a b c d e f g l, .cells 161 (ARR a b c d e f g), .cells 160 [I f, I 0, I 4]]) (br (decide (f > 4)) (IT (S106s 2 6 a b c d e f g l)) (IT (S106s x 6 a b c d e f g l))) := by kernel_rfl
theorem r106_6 : sxI it E106 A106 L106_2 0 (S106s x 6 a b c d e f g l) (kitV [1, 4, 29, 30] 2 IT (Z106_2 it K)) =
    br (decide (g < 1)) (K (I 1) [CFG a b c d e f g l, .cells 161 (ARR a b c d e f g), .cells 160 [I g, I 1, I 8]]) (br (decide (g > 8)) (IT (S106s 2 7 a b c d e f g l)) (IT (S106s x 7 a b c d e f g l))) := by kernel_rfl
theorem r106_7 : sxI it E106 A106 L106_2 0 (S106s x 7 a b c d e f g l) (kitV [1, 4, 29, 30] 2 IT (Z106_2 it K)) =
    br (decide (l < 1)) (K (I 1) [CFG a b c d e f g l, .cells 161 (ARR a b c d e f g)]) (br (decide (l > 1048576)) (K (I 2) [CFG a b c d e f g l, .cells 161 (ARR a b c d e f g)]) (K (I x) [CFG a b c d e f g l, .cells 161 (ARR a b c d e f g)])) := by kernel_rfl
end

abbrev IT106 (n : Nat) (x j a b c d e f g l : Int) : Option (SV × SH) := iter [1, 4, 29, 30] 2 (sxI itB E106 A106 L106_2 0) n (S106s x j a b c d e f g l) (Z106_2 itB fun r h => some (r, h))

theorem round106 {X : Option (SV × SH)} {Y : Int → Option (SV × SH)} {w : Int → Int} {p q : Bool} {x : Int} (h1 : ∃ H, X = some (I 1, H)) (hY : ∀ x, ∃ H, Y x = some (I (w x), H)) : ∃ H, br p X (br q (Y 2) (Y x)) = some (I (bif p then 1 else w (bif q then 2 else x)), H) := by
  cases p with
  | true => exact h1
  | false =>
    cases q with
    | true => exact hY 2
    | false => exact hY x

theorem last106 {p q : Bool} {x : Int} {H1 H2 H3 : SH} : ∃ H, br p (some (I 1, H1)) (br q (some (I 2, H2)) (some (I x, H3))) = some (I (bif p then 1 else bif q then 2 else x), H) := by
  cases p with
  | true => exact ⟨_, rfl⟩
  | false =>
    cases q with
    | true => exact ⟨_, rfl⟩
    | false => exact ⟨_, rfl⟩

def w7 (l x : Int) : Int := bif decide (l < 1) then 1 else bif decide (l > 1048576) then 2 else x
def w6 (g l x : Int) : Int := bif decide (g < 1) then 1 else w7 l (bif decide (g > 8) then 2 else x)
def w5 (f g l x : Int) : Int := bif decide (f < 0) then 1 else w6 g l (bif decide (f > 4) then 2 else x)
def w4 (e f g l x : Int) : Int := bif decide (e < 1) then 1 else w5 f g l (bif decide (e > 32) then 2 else x)
def w3 (d e f g l x : Int) : Int := bif decide (d < 1) then 1 else w4 e f g l (bif decide (d > 4) then 2 else x)
def w2 (c d e f g l x : Int) : Int := bif decide (c < 1) then 1 else w3 d e f g l (bif decide (c > 16) then 2 else x)
def w1 (b c d e f g l x : Int) : Int := bif decide (b < 1) then 1 else w2 c d e f g l (bif decide (b > 8) then 2 else x)
def w0 (a b c d e f g l x : Int) : Int := bif decide (a < 1) then 1 else w1 b c d e f g l (bif decide (a > 8) then 2 else x)

theorem v106 (a b c d e f g l : Int) : ∃ H, sxFn E106 A106 C106 [cfgS a b c d e f g l] [] (fun r h => some (r, h)) = some (I (chk a b c d e f g l), H) := by
  have h7 : ∀ n x, ∃ H, IT106 (n + 1) x 7 a b c d e f g l = some (I (w7 l x), H) := fun n x => by
    unfold IT106
    rw [iter_succ, r106_7]
    exact last106
  have h6 : ∀ n x, ∃ H, IT106 (n + 2) x 6 a b c d e f g l = some (I (w6 g l x), H) := fun n x => by
    unfold IT106
    rw [iter_succ, r106_6]
    exact round106 (Y := fun x => IT106 (n + 1) x 7 a b c d e f g l) ⟨_, rfl⟩ (h7 n)
  have h5 : ∀ n x, ∃ H, IT106 (n + 3) x 5 a b c d e f g l = some (I (w5 f g l x), H) := fun n x => by
    unfold IT106
    rw [iter_succ, r106_5]
    exact round106 (Y := fun x => IT106 (n + 2) x 6 a b c d e f g l) ⟨_, rfl⟩ (h6 n)
  have h4 : ∀ n x, ∃ H, IT106 (n + 4) x 4 a b c d e f g l = some (I (w4 e f g l x), H) := fun n x => by
    unfold IT106
    rw [iter_succ, r106_4]
    exact round106 (Y := fun x => IT106 (n + 3) x 5 a b c d e f g l) ⟨_, rfl⟩ (h5 n)
  have h3 : ∀ n x, ∃ H, IT106 (n + 5) x 3 a b c d e f g l = some (I (w3 d e f g l x), H) := fun n x => by
    unfold IT106
    rw [iter_succ, r106_3]
    exact round106 (Y := fun x => IT106 (n + 4) x 4 a b c d e f g l) ⟨_, rfl⟩ (h4 n)
  have h2 : ∀ n x, ∃ H, IT106 (n + 6) x 2 a b c d e f g l = some (I (w2 c d e f g l x), H) := fun n x => by
    unfold IT106
    rw [iter_succ, r106_2]
    exact round106 (Y := fun x => IT106 (n + 5) x 3 a b c d e f g l) ⟨_, rfl⟩ (h3 n)
  have h1 : ∀ n x, ∃ H, IT106 (n + 7) x 1 a b c d e f g l = some (I (w1 b c d e f g l x), H) := fun n x => by
    unfold IT106
    rw [iter_succ, r106_1]
    exact round106 (Y := fun x => IT106 (n + 6) x 2 a b c d e f g l) ⟨_, rfl⟩ (h2 n)
  have h0 : ∀ n x, ∃ H, IT106 (n + 8) x 0 a b c d e f g l = some (I (w0 a b c d e f g l x), H) := fun n x => by
    unfold IT106
    rw [iter_succ, r106_0]
    exact round106 (Y := fun x => IT106 (n + 7) x 1 a b c d e f g l) ⟨_, rfl⟩ (h1 n)
  obtain ⟨H, hH⟩ := h0 999999999992 0
  refine ⟨H, ?_⟩
  rw [← sxFnI_eq, r106]
  have e1 : w0 a b c d e f g l 0 = chk a b c d e f g l := by
    simp only [w0, w1, w2, w3, w4, w5, w6, w7, chk, or_cond]
    generalize decide (a < 1) = p0
    generalize decide (b < 1) = p1
    generalize decide (c < 1) = p2
    generalize decide (d < 1) = p3
    generalize decide (e < 1) = p4
    generalize decide (f < 0) = p5
    generalize decide (g < 1) = p6
    generalize decide (l < 1) = p7
    generalize decide (a > 8) = q0
    generalize decide (b > 8) = q1
    generalize decide (c > 16) = q2
    generalize decide (d > 4) = q3
    generalize decide (e > 32) = q4
    generalize decide (f > 4) = q5
    generalize decide (g > 8) = q6
    generalize decide (l > 1048576) = q7
    clear h0 h1 h2 h3 h4 h5 h6 h7 hH
    cases p0 <;> simp only [cond_true, cond_false]
    cases p1 <;> simp only [cond_true, cond_false]
    cases p2 <;> simp only [cond_true, cond_false]
    cases p3 <;> simp only [cond_true, cond_false]
    cases p4 <;> simp only [cond_true, cond_false]
    cases p5 <;> cases p6 <;> cases p7 <;> simp only [cond_true, cond_false]
    cases q7 <;> simp only [cond_true, cond_false]
    · revert q0 q1 q2 q3 q4 q5 q6; decide
    · revert q0 q1 q2 q3 q4 q5 q6; decide
  rw [e1] at hH
  exact hH

def S106 {Ω : Type} : Spec Ω := conSpec [.g cfgK] FChk
theorem g106 : Good1 Try.prog 106 S106 := conGood Try.func106 (by kernel_rfl) c106 e106 mix (A := A106) fun l r hr hl hF => by
  obtain ⟨x, rfl, hx⟩ := lenAs_one hl
  obtain ⟨a, b, c, d, e, f, g, i, rfl⟩ := eight hx
  simp only [FChk, Option.some.injEq, Prod.mk.injEq, true_and] at hF
  obtain ⟨rfl, rfl⟩ := hF
  obtain ⟨H, hH⟩ := v106 a b c d e f g i
  exact ⟨trivial, trivial, H, trim_none rfl _, hH⟩
end Go.Sx.Pr
