/- Contracts: equality of lists of words, clone, the layout's list. -/
import Derived.Test.YtpnnnklahanecaaP2
namespace Go.Sx.Pr
open Go Go.Sx Go.Proofs
set_option maxRecDepth 100000

/-! ### ref02.Same -/
abbrev S32s (i : Int) (xs ys : List Int) : SS := ⟨[(0, .d (.ints .u64 xs)), (1, .d (.ints .u64 ys)), (5, I i)], []⟩
section
variable {Ω : Type} (it : Itr Ω) (IT : SS → Option Ω) (K : SV → SH → Option Ω) (xs ys : List Int) (i : Int)
theorem r32 : sxFnI it E32 A32 C32 [.d (.ints .u64 xs), .d (.ints .u64 ys)] [] K =
    br (!((xs.length : Int) == (ys.length : Int))) (K (B false) []) (it [0, 1, 5] 0 (sxI it E32 A32 L32_2 0) (S32s 0 xs ys) (Z32_2 it K)) := by kernel_rfl
theorem r32_1 : sxI it E32 A32 L32_2 0 (S32s i xs ys) (kitV [0, 1, 5] 0 IT (Z32_2 it K)) =
    br (decide (i < (xs.length : Int))) (br (inB i xs.length) (br (inB i ys.length) (br (!(xs.getD i.toNat 0 == ys.getD i.toNat 0)) (K (B false) []) (IT (S32s (IntKind.wrap .i64 (i + 1)) xs ys))) none) none) (K (B true) []) := by kernel_rfl
end

theorem loop32 {Ω : Type} (K : SV → SH → Option Ω) {xs ys : List Int} (hl : xs.length = ys.length) (hb : xs.length < 1000000000) : ∀ (k i n : Nat), xs.length - i = k → i ≤ xs.length → k < n →
    iter [0, 1, 5] 0 (sxI itB E32 A32 L32_2 0) n (S32s i xs ys) (Z32_2 itB K) = K (B (decide (xs.drop i = ys.drop i))) []
  | k, i, 0, _, _, h => by omega
  | k, i, n + 1, hk, hi, hn => by
    rw [iter_succ, r32_1]
    by_cases h : i < xs.length
    · have h1 : decide ((i : Int) < (xs.length : Int)) = true := by simp; omega
      have h2 : inB (i : Int) xs.length = true := by simp [inB]; omega
      have h3 : inB (i : Int) ys.length = true := by simp [inB]; omega
      have h4 : IntKind.wrap .i64 ((i : Int) + 1) = ((i + 1 : Nat) : Int) := by rw [w64] <;> omega
      have hy : i < ys.length := by omega
      have e1 : xs.getD ((i : Int)).toNat 0 = xs[i] := by simp [List.getD_eq_getElem?_getD, h]
      have e2 : ys.getD ((i : Int)).toNat 0 = ys[i] := by simp [List.getD_eq_getElem?_getD, hy]
      rw [h1, h2, h3, h4, e1, e2]
      simp only [br, cond_true]
      have hd : (xs.drop i = ys.drop i) ↔ (xs[i] = ys[i] ∧ xs.drop (i + 1) = ys.drop (i + 1)) := by rw [List.drop_eq_getElem_cons h, List.drop_eq_getElem_cons hy, List.cons.injEq]
      have hd' : decide (xs.drop i = ys.drop i) = decide (xs[i] = ys[i] ∧ xs.drop (i + 1) = ys.drop (i + 1)) := decide_eq_decide.2 hd
      rw [hd']
      by_cases e : xs[i] = ys[i]
      · have : (!(xs[i] == ys[i])) = false := by simp [e]
        rw [this]
        simp only [cond_false]
        rw [loop32 K hl hb (k - 1) (i + 1) n (by omega) (by omega) (by omega)]
        simp only [e, true_and]
      · have : (!(xs[i] == ys[i])) = true := by simp [e]
        rw [this]
        simp only [e, false_and, cond_true, decide_false]
    · have h1 : decide ((i : Int) < (xs.length : Int)) = false := by simp; omega
      rw [h1]
      simp only [br, cond_false]
      rw [List.drop_eq_nil_of_le (by omega), List.drop_eq_nil_of_le (by omega)]
      simp

theorem v32 {Ω : Type} (K : SV → SH → Option Ω) (xs ys : List Int) (hb : xs.length < 1000000000) : sxFn E32 A32 C32 [.d (.ints .u64 xs), .d (.ints .u64 ys)] [] K = K (B (decide (xs = ys))) [] := by
  rw [← sxFnI_eq, r32]
  by_cases h : xs.length = ys.length
  · have : (!((xs.length : Int) == (ys.length : Int))) = false := by simp [h]
    rw [this]
    simp only [br, cond_false]
    have := loop32 K h hb xs.length 0 big (by omega) (by omega) (by unfold big; omega)
    simpa [itB] using this
  · have : (!((xs.length : Int) == (ys.length : Int))) = true := by simp; omega
    rw [this]
    have : xs ≠ ys := fun e => h (by rw [e])
    simp [br, this]

def FSame : List (List Int) → Option (Bool × SV × SH)
  | [xs, ys] => some (decide (xs.length < 1000000000), B (decide (xs = ys)), [])
  | _ => none
def S32 {Ω : Type} : Spec Ω := conSpec [.s .u64, .s .u64] FSame
theorem g32 : Good1 Try.prog 32 S32 := conGood Try.func32 (by kernel_rfl) c32 e32 mix (A := A32) fun l r hr hl hF => by
  obtain ⟨xs, q, rfl, _, ys, q', rfl, _, hq⟩ := hl
  simp only [lenAs] at hq
  subst hq
  simp only [FSame, Option.some.injEq, Prod.mk.injEq] at hF
  obtain ⟨h1, rfl, rfl⟩ := hF
  exact ⟨trivial, trivial, _, trim_none rfl _, v32 _ xs ys (by simpa using h1)⟩

/-! ### slices.Clone -/
def S65 {Ω : Type} : Spec Ω := sClone .u64 22 8
theorem g65 : Good1 Try.prog 65 S65 := clone_good Try.func65 (by kernel_rfl) c65 (A := A65) e65 mix
  (fun cc => by kernel_rfl)
  (fun a c => ⟨[.dead, .rowi 22 .u64 []], 1, by kernel_rfl, rfl⟩)
  (fun x r => ⟨[.dead, .rowi 22 .u64 (x :: r)], 1, by
    have : sxFn E65 A65 C65 [.d (.ints .u64 (x :: r))] [] (fun r h => some (r, h)) = br (fits (0 + List.length (x :: r)) 8) (some (.own 1, [.dead, .rowi 22 .u64 (x :: r)])) none := by kernel_rfl
    rw [this]
    simp, rfl⟩)
end Go.Sx.Pr
