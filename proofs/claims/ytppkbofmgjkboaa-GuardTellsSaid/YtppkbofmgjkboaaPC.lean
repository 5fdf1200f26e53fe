/- GuardTells: the law answers true on symbolic arguments. -/
import Derived.Test.YtppkbofmgjkboaaG26
import Derived.Test.YtppkbofmgjkboaaSxMem
set_option linter.all false
set_option linter.unusedVariables false
set_option linter.unusedSimpArgs false
set_option linter.unnecessarySimpa false
namespace Go.Sx.Pr
open Go Go.Sx Go.Sx.Md Go.Proofs
set_option maxRecDepth 100000
abbrev HD (c : Cf) (e : Ev5) : SH := [.cells 36 (encC c), .cells 54 (encV e)]
theorem n1011 {Ω : Type} (it : Itr Ω) (K : SV → SH → Option Ω) (c : Cf) (n : Nat) (a : Nat → Wk) (e : Ev5) :
    sxFnI it E1011 A1011 C1011 [.agg (encC c), .d (.sl 33 n (rowW a)), .agg (encV e)] [] K =
    br (decide ((↑n : Int) > 8)) (K (B true) (HD c e)) (it [1, 3, 5, 7] 2 (sxI it E1011 A1011 L1011_6 0) (SS.mk [(1, .d (DV.sl 33 n (rowW a))), (3, .ptr 0 0), (5, .ptr 1 0), (7, I 0)] (HD c e)) (Z1011_6 it K)) := by kernel_rfl
theorem r1011 {Ω : Type} (it : Itr Ω) (IT : SS → Option Ω) (K : SV → SH → Option Ω) (c : Cf) (e : Ev5) (n : Nat) (a : Nat → Wk) (i : Int) :
    sxI it E1011 A1011 L1011_6 0 ⟨[(1, .d (.sl 33 n (rowW a))), (3, .ptr 0 0), (5, .ptr 1 0), (7, I i)], HD c e⟩ (kitV [1, 3, 5, 7] 2 IT (Z1011_6 it K)) =
    br (decide (i < (↑n : Int))) (br (inB i n) (br (decide (Wk.C (a (Int.toNat i)) < 0)) (K (B true) (HD c e)) (br (inB i n) (br (decide (Wk.C (a (Int.toNat i)) > 60)) (K (B true) (HD c e)) (br (inB i n) (br (decide (Wk.borrow (a (Int.toNat i)) < 0)) (K (B true) (HD c e)) (br (inB i n) (br (decide (Wk.borrow (a (Int.toNat i)) > 60)) (K (B true) (HD c e)) (IT (SS.mk [(1, .d (DV.sl 33 n (rowW a))), (3, .ptr 0 0), (5, .ptr 1 0), (7, I (w64' (i + 1)))] (HD c e)))) none)) none)) none)) none) (br (Gd.okRow n (rowW a) && (decide (n ≤ 8) && Gd.smallG (Gd.wsFrom (Gd.rowD (rowW a)) 0 n))) (it [1, 3, 5, 8, 9, 10] 2 (sxI it E1011 A1011 L1011_2 2) (SS.mk [(1, .d (DV.sl 33 n (rowW a))), (3, .ptr 0 0), (5, .ptr 1 0), (8, .d (DV.ints .i64 (Gd.seenV (Gd.wsFrom (Gd.rowD (rowW a)) 0 n)))), (9, I 0), (10, I 0)] (HD c e)) (Z1011_2 it K)) none) := by kernel_rfl
theorem s1011 {Ω : Type} (it : Itr Ω) (IT : SS → Option Ω) (K : SV → SH → Option Ω) (c : Cf) (e : Ev5) (n : Nat) (a : Nat → Wk) (sn : List Int) (k b : Int) :
    sxI it E1011 A1011 L1011_2 2 ⟨[(1, .d (.sl 33 n (rowW a))), (3, .ptr 0 0), (5, .ptr 1 0), (8, .d (.ints .i64 sn)), (9, I k), (10, I b)], HD c e⟩ (kitV [1, 3, 5, 8, 9, 10] 2 IT (Z1011_2 it K)) =
    br (decide (b < 60)) (br (Gd.okRow n (rowW a) && (decide (n ≤ 8) && (decide (0 ≤ b) && decide (b < 1000)))) (br (Gd.seesL (Gd.wsFrom (Gd.rowD (rowW a)) 0 n) b) (br (decide (k ≥ (↑ (List.length sn) : Int))) (K (B false) (HD c e)) (br (inB k (List.length sn)) (br (!List.getD sn (Int.toNat k) 0 == b) (K (B false) (HD c e)) (IT (SS.mk [(1, .d (DV.sl 33 n (rowW a))), (3, .ptr 0 0), (5, .ptr 1 0), (8, .d (DV.ints .i64 sn)), (9, I (w64' (k + 1))), (10, I (w64' (b + 1)))] (HD c e)))) none)) (IT (SS.mk [(1, .d (DV.sl 33 n (rowW a))), (3, .ptr 0 0), (5, .ptr 1 0), (8, .d (DV.ints .i64 sn)), (9, I k), (10, I (w64' (b + 1)))] (HD c e)))) none) (br (k == (↑ (List.length sn) : Int)) (br (Gd.wrV (c) e == Gd.wrV (c) e) (br (decide (Gd.wrV (c) e ≥ 0) == decide (Gd.wrV (c) e ≥ 0)) (br (!decide (Gd.wrV (c) e ≥ 0)) (br (decide (Gd.wrV (c) e < 0)) (K (B true) (HD c e)) (br (Gd.okRow n (rowW a) && (decide (n ≤ 8) && (decide (0 ≤ Gd.wrV (c) e) && decide (Gd.wrV (c) e < 1000)))) (K (B (true == !Gd.seesL (Gd.wsFrom (Gd.rowD (rowW a)) 0 n) (Gd.wrV (c) e))) (HD c e)) none)) (br (Gd.okRow n (rowW a) && (decide (n ≤ 8) && Gd.smallG (Gd.wsFrom (Gd.rowD (rowW a)) 0 n))) (br (decide (List.length (Gd.seenV (Gd.wsFrom (Gd.rowD (rowW a)) 0 n)) < 1000000000)) (br (decide (Gd.wrV (c) e < 0)) (K (B ((!List.contains (Gd.seenV (Gd.wsFrom (Gd.rowD (rowW a)) 0 n)) (Gd.wrV (c) e)) == true)) (HD c e)) (br (Gd.okRow n (rowW a) && (decide (n ≤ 8) && (decide (0 ≤ Gd.wrV (c) e) && decide (Gd.wrV (c) e < 1000)))) (K (B ((!List.contains (Gd.seenV (Gd.wsFrom (Gd.rowD (rowW a)) 0 n)) (Gd.wrV (c) e)) == !Gd.seesL (Gd.wsFrom (Gd.rowD (rowW a)) 0 n) (Gd.wrV (c) e))) (HD c e)) none)) none) none)) (K (B false) (HD c e))) (K (B false) (HD c e))) (K (B false) (HD c e))) := by kernel_rfl

/-- Whether this run answers true. -/
def TruD (o : Option (SV × SH)) : Prop := ∃ H, o = some (B true, H)
theorem truD {H : SH} : TruD (KS (B true) H) := ⟨H, rfl⟩
open Gd in
theorem pw_len : ∀ {l : List Int} {lo hi : Int}, l.Pairwise (· < ·) → (∀ x, x ∈ l → lo ≤ x ∧ x < hi) → (l.length : Int) ≤ max 0 (hi - lo)
  | [], lo, hi, _, _ => by simp only [List.length_nil]; omega
  | x :: r, lo, hi, h, hx => by
    have hp := List.pairwise_cons.1 h
    have h0 := hx x (by simp)
    have ih := pw_len (l := r) (lo := x + 1) (hi := hi) hp.2 fun y hy => ⟨by have := hp.1 y hy; omega, (hx y (by simp [hy])).2⟩
    simp only [List.length_cons]
    push_cast
    omega
open Gd in
theorem wrV_lt {c : Cf} {e : Ev5} : wrV c e < 1000 := by
  unfold wrV
  cases h : (e.kind == 2) && ((e.ak == 2) && (chkC c == 0)) with
  | false => simp
  | true =>
    simp only [Bool.and_eq_true, beq_iff_eq] at h
    obtain ⟨⟨a1, a2⟩, ⟨b1, b2⟩, ⟨c1, c2⟩, ⟨d1, d2⟩, ⟨e1, e2⟩, _⟩ := chk_zero h.2.2
    have hm4 : c.b * c.c ≤ 8 * c.c := Int.mul_le_mul_of_nonneg_right b2 (by omega)
    simp only [cond_true]
    unfold wrA
    split
    · rename_i q
      have := Int.ediv_lt_of_lt_mul (a := e.aa - baseG c) (b := c.b * c.c) (c := 1 + c.d) (by omega) (by rw [Int.mul_comm]; omega)
      omega
    · omega
open Gd in
theorem k1011 {c : Cf} {e : Ev5} {n : Nat} {a : Nat → Wk} (hn : n ≤ 8) (hs : smallG (wsFrom a 0 n) = true) : ∀ (r b k N : Nat), b + r = 60 → r < N → AtG (wsFrom a 0 n) b k →
    TruD (iter [1, 3, 5, 8, 9, 10] 2 (sxI itB E1011 A1011 L1011_2 2) N ⟨[(1, .d (.sl 33 n (rowW a))), (3, .ptr 0 0), (5, .ptr 1 0), (8, .d (.ints .i64 (seenV (wsFrom a 0 n)))), (9, I k), (10, I b)], HD c e⟩ (Z1011_2 itB KS))
  | 0, b, k, N, hb, hN, hA => by
    obtain ⟨N, rfl⟩ : ∃ k, N = k + 1 := ⟨N - 1, by omega⟩
    obtain rfl : b = 60 := by omega
    have hk := atG_end hs hA
    have hlen : (seenV (wsFrom a 0 n)).length ≤ 60 := by
      have h1 := seen_lt (ws := wsFrom a 0 n)
      have h2 := fun x hx => seen_lo (ws := wsFrom a 0 n) hs (b := x) hx
      have := pw_len (lo := 0) (hi := 60) h1 h2
      omega
    rw [iter_succ, s1011, decide_eq_false (by omega), br_f, ← hk, beq_self_eq_true, br_t, beq_self_eq_true, br_t, beq_self_eq_true, br_t, okRow_W, rowD_W]
    by_cases hw : wrV c e ≥ 0
    · have hw3 : wrV c e < 1000 := wrV_lt
      have w1 : decide (wrV c e ≥ 0) = true := decide_eq_true hw
      have w2 : decide (wrV c e < 0) = false := decide_eq_false (by omega)
      have w3 : decide (wrV c e < 1000) = true := decide_eq_true hw3
      have w4 : decide (0 ≤ wrV c e) = true := decide_eq_true hw
      have w5 : decide ((seenV (wsFrom a 0 n)).length < 1000000000) = true := decide_eq_true (by omega)
      have w6 : decide (n ≤ 8) = true := decide_eq_true hn
      simp only [w1, w2, w3, w4, w5, w6, hs, Bool.and_self, Bool.not_true, br_t, br_f, seen_has hw, beq_self_eq_true]
      exact truD
    · rw [decide_eq_false hw, Bool.not_false, br_t, decide_eq_true (show wrV c e < 0 by omega), br_t]
      exact truD
  | r + 1, b, k, N, hb, hN, hA => by
    obtain ⟨N, rfl⟩ : ∃ k, N = k + 1 := ⟨N - 1, by omega⟩
    rw [iter_succ, s1011, decide_eq_true (by omega), br_t, okRow_W, rowD_W, decide_eq_true hn, decide_eq_true (by omega), decide_eq_true (by omega), Bool.and_self, Bool.and_self, Bool.and_self, br_t]
    have e1 : w64' ((b : Int) + 1) = ((b + 1 : Nat) : Int) := by rw [w64_id (by omega) (by omega)]; push_cast; rfl
    rw [e1]
    cases hx : seesL (wsFrom a 0 n) b with
    | true =>
      obtain ⟨h1, h2, h3⟩ := atG_yes (by omega) hA hx
      have hlen : (seenV (wsFrom a 0 n)).length ≤ 60 := by
        have := pw_len (lo := 0) (hi := 60) (seen_lt (ws := wsFrom a 0 n)) fun x hx => seen_lo (ws := wsFrom a 0 n) hs (b := x) hx
        omega
      rw [br_t, decide_eq_false (by omega), br_f, inB_of' (by omega) (by omega), br_t, Int.toNat_natCast, h2, beq_self_eq_true, Bool.not_true, br_f,
        show w64' ((k : Int) + 1) = ((k + 1 : Nat) : Int) by rw [w64_id (by omega) (by omega)]; push_cast; rfl]
      exact k1011 hn hs r (b + 1) (k + 1) N (by omega) (by omega) (by push_cast; exact h3)
    | false =>
      rw [br_f]
      exact k1011 hn hs r (b + 1) k N (by omega) (by omega) (by push_cast; exact atG_no (by omega) hA hx)
open Gd in
theorem l1011 {c : Cf} {e : Ev5} {n : Nat} {a : Nat → Wk} (hn : n ≤ 8) : ∀ (r i N : Nat), i + r = n → r < N → (∀ k, k < i → (0 ≤ (a k).C ∧ (a k).C ≤ 60) ∧ (0 ≤ (a k).borrow ∧ (a k).borrow ≤ 60)) →
    TruD (iter [1, 3, 5, 7] 2 (sxI itB E1011 A1011 L1011_6 0) N ⟨[(1, .d (.sl 33 n (rowW a))), (3, .ptr 0 0), (5, .ptr 1 0), (7, I i)], HD c e⟩ (Z1011_6 itB KS))
  | 0, i, N, hi, hN, hb => by
    obtain ⟨N, rfl⟩ : ∃ k, N = k + 1 := ⟨N - 1, by omega⟩
    obtain rfl : i = n := by omega
    have hs : smallG (wsFrom a 0 i) = true := by
      unfold smallG
      rw [List.all_eq_true]
      intro x hx
      unfold wsFrom at hx
      simp only [List.mem_map, List.mem_range'_1] at hx
      obtain ⟨k, hk, rfl⟩ := hx
      have := hb k (by omega)
      simp only [Bool.and_eq_true, decide_eq_true_eq]
      exact this
    rw [iter_succ, r1011, decide_eq_false (by omega), br_f, okRow_W, rowD_W, decide_eq_true hn, hs, Bool.and_self, Bool.and_self, br_t, itB_def]
    exact k1011 hn hs 60 0 0 big (by omega) (by unfold big; omega) (atG_0 hs)
  | r + 1, i, N, hi, hN, hb => by
    obtain ⟨N, rfl⟩ : ∃ k, N = k + 1 := ⟨N - 1, by omega⟩
    rw [iter_succ, r1011, decide_eq_true (by omega), br_t, inB_of' (by omega) (by omega), br_t, br_t, br_t, br_t, Int.toNat_natCast,
      show w64' ((i : Int) + 1) = ((i + 1 : Nat) : Int) by rw [w64_id (by omega) (by omega)]; push_cast; rfl]
    by_cases h1 : (a i).C < 0
    · rw [decide_eq_true h1, br_t]; exact truD
    rw [decide_eq_false h1, br_f]
    by_cases h2 : (a i).C > 60
    · rw [decide_eq_true h2, br_t]; exact truD
    rw [decide_eq_false h2, br_f]
    by_cases h3 : (a i).borrow < 0
    · rw [decide_eq_true h3, br_t]; exact truD
    rw [decide_eq_false h3, br_f]
    by_cases h4 : (a i).borrow > 60
    · rw [decide_eq_true h4, br_t]; exact truD
    rw [decide_eq_false h4, br_f]
    exact l1011 hn r (i + 1) N (by omega) (by omega) fun k hk => by
      by_cases e : k = i
      · subst e; exact ⟨⟨by omega, by omega⟩, by omega, by omega⟩
      · exact hb k (by omega)
theorem mainT {c : Cf} {n : Nat} {a : Nat → Wk} {e : Ev5} : ∃ H, sxFn E1011 A1011 C1011 [.agg (encC c), .d (.sl 33 n (rowW a)), .agg (encV e)] [] KS = some (B true, H) := by
  rw [← sxFnI_eq, n1011]
  by_cases h : (n : Int) > 8
  · rw [decide_eq_true h, br_t]; exact ⟨_, rfl⟩
  · rw [decide_eq_false h, br_f, itB_def]
    exact l1011 (by omega) n 0 big (by omega) (by unfold big; omega) fun k hk => absurd hk (by omega)
end Go.Sx.Pr

/- A list of bytes as an argument of a law. -/
namespace Go.Sx.Pr
open Go Go.Sx Go.Proofs Go.ChangeShapes Go.WideShapes Go.ChangeAt Go.RowKit
set_option maxRecDepth 100000
section
variable {H : Type} {enc : TypeId × Value → H} {w : World}
end
end Go.Sx.Pr
