/- GuardTells: what Seen, Sees and both layers' Written compute. -/
import Derived.Test.YtppkbofmgjkboaaG22
import Derived.Test.YtppkbofmgjkboaaN7
import Derived.Test.YtppkbofmgjkboaaG2
import Derived.Test.YtppkbofmgjkboaaRows
import Derived.KernelRfl
import Derived.Test.YtppkbofmgjkboaaG2
set_option linter.all false
set_option linter.unusedVariables false
set_option linter.unusedSimpArgs false
set_option linter.unnecessarySimpa false
namespace Go.Sx.Pr
namespace Gd
open Go Go.Sx Go.Sx.Md Go.Proofs
set_option maxRecDepth 100000

/-! ### Sees -/
def wsFrom (a : Nat → Wk) (i r : Nat) : List Wk := (List.range' i r).map a
theorem wsFrom_0 {a : Nat → Wk} {i : Nat} : wsFrom a i 0 = [] := rfl
theorem wsFrom_s {a : Nat → Wk} {i r : Nat} : wsFrom a i (r + 1) = a i :: wsFrom a (i + 1) r := rfl
theorem l1048 {n : Nat} {a : Nat → Wk} {b : Int} (hn : n ≤ 8) (hb : 0 ≤ b ∧ b < 1000) : ∀ (r i N : Nat), i + r = n → r < N →
    GivesV (iter [0, 1, 5] 0 (sxI itB E1048 A1048 L1048_2 0) N ⟨[(0, .d (.sl 33 n (rowW a))), (1, I b), (5, I i)], []⟩ (Z1048_2 itB KS)) (B (seesL (wsFrom a i r) b))
  | 0, i, N, hi, hN => by
    obtain ⟨N, rfl⟩ : ∃ k, N = k + 1 := ⟨N - 1, by omega⟩
    rw [iter_succ, r1048, decide_eq_false (by omega), br_f]
    exact givesV
  | r + 1, i, N, hi, hN => by
    obtain ⟨N, rfl⟩ : ∃ k, N = k + 1 := ⟨N - 1, by omega⟩
    have ih := l1048 (a := a) hn hb r (i + 1) N (by omega) (by omega)
    rw [show ((i + 1 : Nat) : Int) = (i : Int) + 1 by push_cast; rfl] at ih
    rw [iter_succ, r1048, decide_eq_true (by omega), br_t, inB_of' (by omega) (by omega), br_t, Int.toNat_natCast, wsFrom_s,
      show IntKind.wrap .i64 (b + 1) = b + 1 from w64_id (by omega) (by omega), show w64' ((i : Int) + 1) = (i : Int) + 1 from w64_id (by omega) (by omega)]
    have hs : seesL (a i :: wsFrom a (i + 1) r) b = (sees1 (a i) b || seesL (wsFrom a (i + 1) r) b) := rfl
    rw [hs]
    unfold sees1
    cases e1 : (a i).line == 61 <;> cases e2 : (a i).C == b + 1 <;> cases e3 : (a i).pinned <;> cases e4 : (a i).borrow == b + 1 <;>
      simp only [br_t, br_f, Bool.and_true, Bool.and_false, Bool.true_and, Bool.false_and, Bool.or_true, Bool.true_or, Bool.false_or, Bool.or_false] <;> first | exact givesV | exact ih
theorem v1048 {n : Nat} {a : Nat → Wk} {b : Int} (hn : n ≤ 8) (hb : 0 ≤ b ∧ b < 1000) : GivesV (sxFn E1048 A1048 C1048 [.d (.sl 33 n (rowW a)), I b] [] KS) (B (seesL (wsFrom a 0 n) b)) := by
  rw [← sxFnI_eq, n1048, itB_def]
  exact l1048 hn hb n 0 big (by omega) (by unfold big; omega)

/-! ### Seen -/
def stS (n : Nat) (a : Nat → Wk) (i : Int) : List Int → SS
  | [] => ⟨[(3, .d (.v (.slice none 0 0))), (6, .d (.sl 33 n (rowW a))), (7, I n), (8, I i)], []⟩
  | x :: r => ⟨[(3, .own 2), (6, .d (.sl 33 n (rowW a))), (7, I n), (8, I i)], [.dead, .dead, .rowi 3 .i64 (x :: r)]⟩
theorem stS_ne {n : Nat} {a : Nat → Wk} {i : Int} {xs : List Int} (h : xs ≠ []) : stS n a i xs = ⟨[(3, .own 2), (6, .d (.sl 33 n (rowW a))), (7, I n), (8, I i)], [.dead, .dead, .rowi 3 .i64 xs]⟩ := by
  cases xs with
  | nil => exact absurd rfl h
  | cons x r => rfl
theorem fits_sm {n : Nat} (h : n < 1000) : fits n 8 = true := by
  unfold fits; exact decide_eq_true (by omega)
theorem round1047 {Ω : Type} {it : Itr Ω} {IT : SS → Option Ω} {K : SV → SH → Option Ω} {n i : Nat} {a : Nat → Wk} {xs : List Int} (hi : i < n) (hn : n ≤ 8) (hl : xs.length < 100) (hC : 0 ≤ (a i).C ∧ (a i).C ≤ 60) (hB : 0 ≤ (a i).borrow ∧ (a i).borrow ≤ 60) :
    sxI it E1047 A1047 L1047_2 0 (stS n a i xs) (kitV [3, 6, 7, 8] 0 IT (Z1047_2 it K)) = IT (stS n a ((i + 1 : Nat) : Int) (xs ++ coll1 (a i))) := by
  have h1 : IntKind.wrap .i64 ((a i).C - 1) = (a i).C - 1 := w64_id (by omega) (by omega)
  have h2 : IntKind.wrap .i64 ((a i).borrow - 1) = (a i).borrow - 1 := w64_id (by omega) (by omega)
  have h3 : w64' ((i : Int) + 1) = ((i + 1 : Nat) : Int) := by rw [w64_id (by omega) (by omega)]; push_cast; rfl
  cases xs with
  | nil =>
    unfold stS
    simp only []
    rw [r1047, decide_eq_true (by omega), br_t, inB_of' (by omega) (by omega), br_t, Int.toNat_natCast, h1, h2, h3]
    unfold coll1
    cases e1 : (a i).line == 61 <;> cases e2 : (a i).C == 0 <;> cases e3 : (a i).pinned <;> cases e4 : (a i).borrow == 0 <;>
      simp only [br_t, br_f, Bool.not_true, Bool.not_false, Bool.and_true, Bool.and_false, cond_true, cond_false, List.append_nil, List.nil_append, List.cons_append] <;> rfl
  | cons x r =>
    rw [stS_ne (by simp), s1047, decide_eq_true (by omega), br_t, inB_of' (by omega) (by omega), br_t, Int.toNat_natCast, h1, h2, h3]
    have f1 : fits ((x :: r).length + 1) 8 = true := fits_sm (by simp at hl ⊢; omega)
    have f2 : fits (((x :: r) ++ [(a i).C - 1]).length + 1) 8 = true := fits_sm (by simp at hl ⊢; omega)
    rw [f1, f2, stS_ne (by simp)]
    unfold coll1
    cases e1 : (a i).line == 61 <;> cases e2 : (a i).C == 0 <;> cases e3 : (a i).pinned <;> cases e4 : (a i).borrow == 0 <;>
      simp only [br_t, br_f, Bool.not_true, Bool.not_false, Bool.and_true, Bool.and_false, cond_true, cond_false, List.append_nil, List.nil_append, List.append_assoc]
theorem coll_len {x : Wk} : (coll1 x).length ≤ 2 := by
  unfold coll1
  cases (x.line == 61) && !(x.C == 0) <;> cases x.pinned && !(x.borrow == 0) <;> simp
/-- A run whose result is a list of integers, maybe nil. -/
def GivesL (o : Option (SV × SH)) (l : List Int) : Prop := ∃ r0 H y, o = some (r0, H) ∧ dat true H r0 = some y ∧ ∀ cx w u, SRep cx w y u → SRep cx w (.d (.ints .i64 l)) u
theorem sorted_nil : sorted [] = [] := by simp [sorted]
theorem l1047 {n : Nat} {a : Nat → Wk} (hn : n ≤ 8) (hb : ∀ i, i < n → (0 ≤ (a i).C ∧ (a i).C ≤ 60) ∧ (0 ≤ (a i).borrow ∧ (a i).borrow ≤ 60)) : ∀ (r i N : Nat) (xs : List Int), i + r = n → r < N → xs.length ≤ 2 * i →
    GivesL (iter [3, 6, 7, 8] 0 (sxI itB E1047 A1047 L1047_2 0) N (stS n a i xs) (Z1047_2 itB KS)) (Lib.compact (sorted (xs ++ coll (wsFrom a i r))))
  | 0, i, N, xs, hi, hN, hl => by
    obtain ⟨N, rfl⟩ : ∃ k, N = k + 1 := ⟨N - 1, by omega⟩
    rw [iter_succ, wsFrom_0]
    simp only [coll, List.append_nil]
    cases xs with
    | nil =>
      unfold stS
      simp only []
      rw [r1047, decide_eq_false (by omega), br_f, sorted_nil]
      exact ⟨_, _, _, rfl, rfl, fun cx w u h => rep_nil h⟩
    | cons x r =>
      have h1 : (sorted (x :: r)).length = (x :: r).length := by simp [sorted]
      rw [stS_ne (by simp), s1047, decide_eq_false (by omega), br_f, decide_eq_true (by omega), br_t, decide_eq_true (by omega), Bool.and_self, br_t]
      exact ⟨_, _, .d (.ints .i64 (Lib.compact (sorted (x :: r)))), rfl, rfl, fun cx w u h => h⟩
  | r + 1, i, N, xs, hi, hN, hl => by
    obtain ⟨N, rfl⟩ : ∃ k, N = k + 1 := ⟨N - 1, by omega⟩
    have hbi := hb i (by omega)
    have hc := coll_len (x := a i)
    have ih := l1047 hn hb r (i + 1) N (xs ++ coll1 (a i)) (by omega) (by omega) (by simp; omega)
    rw [iter_succ, round1047 (by omega) hn (by omega) hbi.1 hbi.2, wsFrom_s]
    simp only [coll, ← List.append_assoc]
    exact ih
theorem v1047 {n : Nat} {a : Nat → Wk} (hn : n ≤ 8) (hb : ∀ i, i < n → (0 ≤ (a i).C ∧ (a i).C ≤ 60) ∧ (0 ≤ (a i).borrow ∧ (a i).borrow ≤ 60)) : GivesL (sxFn E1047 A1047 C1047 [.d (.sl 33 n (rowW a))] [] KS) (seenV (wsFrom a 0 n)) := by
  rw [← sxFnI_eq, n1047, itB_def]
  have := l1047 hn hb n 0 big [] (by omega) (by unfold big; omega) (by simp)
  exact this

/-! ### Written -/
def baseG (c : Cf) : Int := 3 + c.a + c.b + 2 * c.e
def wrA (c : Cf) (at_ : Int) : Int := if baseG c ≤ at_ ∧ at_ < baseG c + (1 + c.d) * (c.b * c.c) ∧ (at_ - baseG c) % (1 + c.d) ≠ 0 then (at_ - baseG c) / (1 + c.d) else -1
def wrV (c : Cf) (e : Ev5) : Int := bif (e.kind == 2) && ((e.ak == 2) && (chkC c == 0)) then wrA c e.aa else -1
theorem wrA_at {c : Cf} {q at_ : Int} (hd : 1 ≤ c.d ∧ c.d ≤ 4) (q0 : 0 ≤ q) (q1 : q < c.b * c.c) (h0 : baseG c + (1 + c.d) * q + 1 ≤ at_) (h1 : at_ < baseG c + (1 + c.d) * q + 1 + c.d) : wrA c at_ = q := by
  have hm : (1 + c.d) * q + (1 + c.d) ≤ (1 + c.d) * (c.b * c.c) := by
    have := Int.mul_le_mul_of_nonneg_left (show q + 1 ≤ c.b * c.c by omega) (show 0 ≤ 1 + c.d by omega)
    rw [Int.mul_add, Int.mul_one] at this
    exact this
  have hp : 0 ≤ (1 + c.d) * q := Int.mul_nonneg (by omega) q0
  have e1 : at_ - baseG c = (at_ - baseG c - (1 + c.d) * q) + q * (1 + c.d) := by rw [Int.mul_comm q]; omega
  have hq : (at_ - baseG c) / (1 + c.d) = q := by
    rw [e1, Int.add_mul_ediv_right _ _ (by omega), Int.ediv_eq_zero_of_lt (by omega) (by omega)]; omega
  have hr : (at_ - baseG c) % (1 + c.d) = at_ - baseG c - (1 + c.d) * q := by
    rw [e1, Int.add_mul_emod_self_right, Int.emod_eq_of_lt (by omega) (by omega)]; omega
  unfold wrA
  rw [if_pos ⟨by omega, by omega, by omega⟩, hq]
theorem wrA_no {c : Cf} {at_ : Int} (hd : 1 ≤ c.d ∧ c.d ≤ 4) (h : ∀ q, 0 ≤ q → q < c.b * c.c → ¬ (baseG c + (1 + c.d) * q + 1 ≤ at_ ∧ at_ < baseG c + (1 + c.d) * q + 1 + c.d)) : wrA c at_ = -1 := by
  unfold wrA
  by_cases hc : baseG c ≤ at_ ∧ at_ < baseG c + (1 + c.d) * (c.b * c.c) ∧ (at_ - baseG c) % (1 + c.d) ≠ 0
  · obtain ⟨h1, h2, h3⟩ := hc
    have e := Int.emod_add_mul_ediv (at_ - baseG c) (1 + c.d)
    have e0 := Int.emod_nonneg (at_ - baseG c) (show 1 + c.d ≠ 0 by omega)
    have e1 := Int.emod_lt_of_pos (at_ - baseG c) (show 0 < 1 + c.d by omega)
    refine absurd ⟨?_, ?_⟩ (h ((at_ - baseG c) / (1 + c.d)) (Int.ediv_nonneg (by omega) (by omega)) (Int.ediv_lt_of_lt_mul (by omega) (by rw [Int.mul_comm]; omega)))
    · omega
    · omega
  · rw [if_neg hc]
theorem l1049 {c : Cf} {e : Ev5} {T : Nat} (hc : chkC c = 0) (hT : c.b * c.c = T) : ∀ (r i N : Nat), i + r = T → r < N →
    (∀ q : Int, 0 ≤ q → q < i → ¬ (baseG c + (1 + c.d) * q + 1 ≤ e.aa ∧ e.aa < baseG c + (1 + c.d) * q + 1 + c.d)) →
    GivesV (iter [2, 3, 6, 26, 27] 3 (sxI itB E1049 A1049 L1049_2 0) N ⟨[(2, .ptr 0 0), (3, .ptr 1 0), (6, .ptr 2 0), (26, I T), (27, I i)], [.cells 36 (encC c), .cells 54 (encV e), .cells 87 (encC c)]⟩ (Z1049_2 itB KS)) (.tup [I (wrA c e.aa), B (decide (wrA c e.aa ≥ 0))])
  | 0, i, N, hi, hN, hno => by
    obtain ⟨N, rfl⟩ : ∃ k, N = k + 1 := ⟨N - 1, by omega⟩
    obtain ⟨_, _, _, ⟨d1, d2⟩, _⟩ := chk_zero hc
    rw [iter_succ, r1049, decide_eq_false (by omega), br_f, wrA_no ⟨d1, d2⟩ (fun q q0 q1 => hno q q0 (by omega))]
    exact givesV
  | r + 1, i, N, hi, hN, hno => by
    obtain ⟨N, rfl⟩ : ∃ k, N = k + 1 := ⟨N - 1, by omega⟩
    obtain ⟨⟨a1, a2⟩, ⟨b1, b2⟩, ⟨c1, c2⟩, ⟨d1, d2⟩, ⟨e1, e2⟩, _⟩ := chk_zero hc
    have hm4 : c.b * c.c ≤ 8 * c.c := Int.mul_le_mul_of_nonneg_right b2 (by omega)
    have ha : adr c 5 i = baseG c + (1 + c.d) * i := by
      show atV c.a c.b c.c c.d c.e c.f c.g c.l 5 i 0 = _
      rw [at5 hc, if_pos ⟨by omega, by omega⟩]; rfl
    have hp : 0 ≤ (1 + c.d) * (i : Int) := Int.mul_nonneg (by omega) (by omega)
    have hp2 : (1 + c.d) * (i : Int) ≤ 5 * 128 := by
      have := Int.mul_le_mul (show 1 + c.d ≤ 5 by omega) (show (i : Int) ≤ 128 by omega) (by omega) (by omega)
      exact this
    have hg : 0 ≤ baseG c ∧ baseG c ≤ 100 := by unfold baseG; omega
    rw [iter_succ, r1049, decide_eq_true (by omega), br_t, ha, decide_eq_true (by omega), br_t, decide_eq_true (by omega), br_t,
      show w64' (baseG c + (1 + c.d) * (i : Int) + 1) = baseG c + (1 + c.d) * (i : Int) + 1 from w64_id (by omega) (by omega), Int.add_zero,
      show IntKind.wrap .i64 (baseG c + (1 + c.d) * (i : Int) + 1) = baseG c + (1 + c.d) * (i : Int) + 1 from w64_id (by omega) (by omega),
      show w64' (baseG c + (1 + c.d) * (i : Int) + 1) = baseG c + (1 + c.d) * (i : Int) + 1 from w64_id (by omega) (by omega),
      show IntKind.wrap .i64 (baseG c + (1 + c.d) * (i : Int) + 1 + c.d) = baseG c + (1 + c.d) * (i : Int) + 1 + c.d from w64_id (by omega) (by omega),
      show w64' ((i : Int) + 1) = ((i + 1 : Nat) : Int) by rw [w64_id (by omega) (by omega)]; push_cast; rfl]
    by_cases h1 : e.aa ≥ baseG c + (1 + c.d) * (i : Int) + 1
    · rw [decide_eq_true h1, br_t]
      by_cases h2 : e.aa < baseG c + (1 + c.d) * (i : Int) + 1 + c.d
      · rw [decide_eq_true h2, br_t, wrA_at ⟨d1, d2⟩ (show 0 ≤ (i : Int) by omega) (by omega) h1 h2, decide_eq_true (by omega)]
        exact givesV
      · rw [decide_eq_false h2, br_f]
        exact l1049 hc hT r (i + 1) N (by omega) (by omega) fun q q0 q1 => by
          by_cases e : q = i
          · subst e; omega
          · exact hno q q0 (by omega)
    · rw [decide_eq_false h1, br_f]
      exact l1049 hc hT r (i + 1) N (by omega) (by omega) fun q q0 q1 => by
        by_cases e : q = i
        · subst e; omega
        · exact hno q q0 (by omega)
theorem v1049 {c : Cf} {e : Ev5} : GivesV (sxFn E1049 A1049 C1049 [.agg (encC c), .agg (encV e)] [] KS) (.tup [I (wrV c e), B (decide (wrV c e ≥ 0))]) := by
  rw [← sxFnI_eq, n1049]
  unfold wrV
  cases h1 : e.kind == 2 with
  | false => rw [Bool.not_false, br_t]; exact givesV
  | true =>
    rw [Bool.not_true, br_f]
    cases h2 : e.ak == 2 with
    | false => rw [Bool.not_false, br_t]; exact givesV
    | true =>
      rw [Bool.not_true, br_f]
      cases h3 : chkC c == 0 with
      | false => rw [Bool.not_false, br_t]; exact givesV
      | true =>
        have hc : chkC c = 0 := eq_of_beq h3
        obtain ⟨⟨a1, a2⟩, ⟨b1, b2⟩, ⟨c1, c2⟩, ⟨d1, d2⟩, ⟨e1, e2⟩, _⟩ := chk_zero hc
        have hm4 : c.b * c.c ≤ 8 * c.c := Int.mul_le_mul_of_nonneg_right b2 (by omega)
        have hm5 : 0 ≤ c.b * c.c := Int.mul_nonneg (by omega) (by omega)
        obtain ⟨T, hT⟩ : ∃ T : Nat, c.b * c.c = T := ⟨(c.b * c.c).toNat, by omega⟩
        rw [Bool.not_true, br_f, br_f, show w64' (c.b * c.c) = (T : Int) by rw [w64_id (by omega) (by omega)]; exact hT, itB_def]
        exact l1049 hc hT T 0 big (by omega) (by unfold big; omega) fun q q0 q1 => by omega

theorem spot6 {c : Cf} (hc : chkC c = 0) {i : Nat} (hi : i < sizeN c.a.toNat c.b.toNat c.c.toNat c.d.toNat c.e.toNat) :
    (spot c.a.toNat c.b.toNat c.d.toNat c.e.toNat i 0 = 6 ∧ atV c.a c.b c.c c.d c.e c.f c.g c.l 6 (spot c.a.toNat c.b.toNat c.d.toNat c.e.toNat i 1) (spot c.a.toNat c.b.toNat c.d.toNat c.e.toNat i 2) = i ∧ wrA c i = spot c.a.toNat c.b.toNat c.d.toNat c.e.toNat i 1) ∨
    (spot c.a.toNat c.b.toNat c.d.toNat c.e.toNat i 0 ≠ 6 ∧ wrA c i = -1) := by
  obtain ⟨⟨a1, a2⟩, ⟨b1, b2⟩, ⟨c1, c2⟩, ⟨d1, d2⟩, ⟨e1, e2⟩, _⟩ := chk_zero hc
  generalize hA : c.a.toNat = A at *
  generalize hB : c.b.toNat = Bn at *
  generalize hC : c.c.toNat = Cn at *
  generalize hD : c.d.toNat = D at *
  generalize hE : c.e.toNat = E at *
  have ea : c.a = A := by omega
  have eb : c.b = Bn := by omega
  have ec : c.c = Cn := by omega
  have ed : c.d = D := by omega
  have ee : c.e = E := by omega
  have hbase : baseG c = ((3 + A + Bn + 2 * E : Nat) : Int) := by unfold baseG; rw [ea, eb, ee]; push_cast; omega
  have low : i < 3 + A + Bn + 2 * E → wrA c i = -1 := fun h => by unfold wrA; rw [if_neg (by omega)]
  unfold spot spotL
  by_cases h1 : i < 3
  · rw [if_pos h1]; exact .inr ⟨by simp, low (by omega)⟩
  rw [if_neg h1]
  by_cases h2 : i < 3 + A
  · rw [if_pos h2]; exact .inr ⟨by simp, low (by omega)⟩
  rw [if_neg h2]
  by_cases h3 : i < 3 + A + Bn
  · rw [if_pos h3]; exact .inr ⟨by simp, low (by omega)⟩
  rw [if_neg h3]
  by_cases h4 : i < 3 + A + Bn + 2 * E
  · rw [if_pos h4]
    refine .inr ⟨?_, low h4⟩
    simp only [List.getD_cons_zero]
    split <;> decide
  rw [if_neg h4]
  obtain ⟨j, rfl⟩ : ∃ j, i = 3 + A + Bn + 2 * E + j := ⟨i - (3 + A + Bn + 2 * E), by omega⟩
  have ej : 3 + A + Bn + 2 * E + j - (3 + A + Bn + 2 * E) = j := by omega
  rw [ej]
  have hdm := Nat.mod_add_div j (1 + D)
  have hml := Nat.mod_lt j (show 0 < 1 + D by omega)
  have hjT : j < (1 + D) * (Bn * Cn) := by
    unfold sizeN at hi; simp only [Nat.one_mul] at hi; omega
  have hq : j / (1 + D) < Bn * Cn := Nat.div_lt_of_lt_mul hjT
  have hqZ : ((j / (1 + D) : Nat) : Int) < c.b * c.c := by rw [eb, ec]; exact_mod_cast hq
  have eqZ : (1 + c.d) * ((j / (1 + D) : Nat) : Int) = (((1 + D) * (j / (1 + D)) : Nat) : Int) := by rw [ed]; push_cast; rfl
  generalize hqq : j / (1 + D) = qq at *
  generalize hQ : (1 + D) * qq = Q at *
  generalize hR : j % (1 + D) = R at *
  by_cases h5 : R = 0
  · rw [if_pos h5]
    refine .inr ⟨by simp, ?_⟩
    refine wrA_no ⟨d1, d2⟩ fun q q0 q1 ⟨z1, z2⟩ => ?_
    obtain ⟨qn, rfl⟩ := Int.eq_ofNat_of_zero_le q0
    have eqn : (1 + c.d) * (qn : Int) = (((1 + D) * qn : Nat) : Int) := by rw [ed]; push_cast; rfl
    rw [hbase, eqn] at z1 z2
    rw [ed] at z2
    have z3 : (1 + D) * qn < j := by omega
    have z4 : j < (1 + D) * qn + (1 + D) := by omega
    have z5 : j / (1 + D) = qn := by
      apply Nat.div_eq_of_lt_le
      · rw [Nat.mul_comm]; omega
      · rw [Nat.succ_mul, Nat.mul_comm qn]; omega
    rw [hqq] at z5
    subst z5
    omega
  · rw [if_neg h5]
    simp only [List.getD_cons_zero, List.getD_cons_succ]
    refine .inl ⟨trivial, ?_, ?_⟩
    · rw [at6 hc, if_pos ⟨⟨by omega, hqZ⟩, by omega, by rw [ed]; omega⟩, eqZ, ea, eb, ee]
      omega
    · refine wrA_at ⟨d1, d2⟩ (by omega) hqZ ?_ ?_
      · rw [hbase, eqZ]; omega
      · rw [hbase, eqZ, ed]; omega
theorem l1050 {c : Cf} {e : Ev5} (hc : chkC c = 0) : ∀ (r i N : Nat), i + r = sizeN c.a.toNat c.b.toNat c.c.toNat c.d.toNat c.e.toNat → r < N →
    (∀ q : Nat, q < i → wrA c q ≠ -1 → (q : Int) ≠ e.aa) →
    GivesV (iter [2, 3, 5, 6] 2 (sxI itB E1050 A1050 L1050_2 0) N ⟨[(2, .ptr 0 0), (3, .ptr 1 0), (5, .d (.sl 3 (sizeN c.a.toNat c.b.toNat c.c.toNat c.d.toNat c.e.toNat) fun i j => .v (.int .i64 (spot c.a.toNat c.b.toNat c.d.toNat c.e.toNat i j)))), (6, I i)], [.cells 36 (encC c), .cells 54 (encV e)]⟩ (Z1050_2 itB KS)) (I (wrA c e.aa))
  | 0, i, N, hi, hN, hno => by
    obtain ⟨N, rfl⟩ : ∃ k, N = k + 1 := ⟨N - 1, by omega⟩
    rw [iter_succ, r1050, decide_eq_false (by omega), br_f]
    have : wrA c e.aa = -1 := by
      apply Decidable.byContradiction
      intro h
      obtain ⟨⟨a1, a2⟩, ⟨b1, b2⟩, ⟨c1, c2⟩, ⟨d1, d2⟩, ⟨e1, e2⟩, _⟩ := chk_zero hc
      have hr : baseG c ≤ e.aa ∧ e.aa < baseG c + (1 + c.d) * (c.b * c.c) := by
        unfold wrA at h
        split at h
        · rename_i q; exact ⟨q.1, q.2.1⟩
        · exact absurd rfl h
      have h0 : 0 ≤ e.aa := by unfold baseG at hr; omega
      obtain ⟨q, hq⟩ := Int.eq_ofNat_of_zero_le h0
      refine hno q ?_ (by rw [← hq]; exact h) hq.symm
      have hsz : ((sizeN c.a.toNat c.b.toNat c.c.toNat c.d.toNat c.e.toNat : Nat) : Int) = baseG c + (1 + c.d) * (c.b * c.c) := by
        unfold sizeN baseG
        push_cast
        rw [Int.toNat_of_nonneg (show 0 ≤ c.a by omega), Int.toNat_of_nonneg (show 0 ≤ c.b by omega), Int.toNat_of_nonneg (show 0 ≤ c.c by omega), Int.toNat_of_nonneg (show 0 ≤ c.d by omega), Int.toNat_of_nonneg (show 0 ≤ c.e by omega)]
        omega
      omega
    rw [this]
    exact givesV
  | r + 1, i, N, hi, hN, hno => by
    obtain ⟨N, rfl⟩ : ∃ k, N = k + 1 := ⟨N - 1, by omega⟩
    obtain ⟨⟨a1, a2⟩, ⟨b1, b2⟩, ⟨c1, c2⟩, ⟨d1, d2⟩, ⟨e1, e2⟩, _⟩ := chk_zero hc
    have hsz : sizeN c.a.toNat c.b.toNat c.c.toNat c.d.toNat c.e.toNat ≤ 1000 := by
      unfold sizeN
      have h1 : c.b.toNat * c.c.toNat ≤ 8 * 16 := Nat.mul_le_mul (by omega) (by omega)
      have h2 : (1 + c.d.toNat) * (c.b.toNat * c.c.toNat) ≤ 5 * (8 * 16) := Nat.mul_le_mul (by omega) h1
      omega
    have hin : inB (i : Int) (sizeN c.a.toNat c.b.toNat c.c.toNat c.d.toNat c.e.toNat) = true := inB_of' (by omega) (by omega)
    have next : (∀ q : Nat, q < i + 1 → wrA c q ≠ -1 → (q : Int) ≠ e.aa) → _ := fun h => l1050 (e := e) hc r (i + 1) N (by omega) (by omega) h
    rw [iter_succ, r1050, decide_eq_true (by omega), br_t, hin, br_t, Int.toNat_natCast, br_t, br_t,
      show w64' ((i : Int) + 1) = ((i + 1 : Nat) : Int) by rw [w64_id (by omega) (by omega)]; push_cast; rfl]
    rcases spot6 hc (i := i) (by omega) with ⟨k6, kat, kw⟩ | ⟨k6, kw⟩
    · rw [k6, show ((6 : Int) == 6) = true from rfl, br_t, kat]
      cases hx : (i : Int) == e.aa with
      | true =>
        rw [br_t, ← eq_of_beq hx, kw]
        exact givesV
      | false =>
        rw [br_f]
        exact next fun q hq hw => by
          by_cases e1 : q = i
          · subst e1; simpa using hx
          · exact hno q (by omega) hw
    · rw [beq_false_of_ne k6, br_f]
      exact next fun q hq hw => by
        by_cases e1 : q = i
        · subst e1; exact absurd kw hw
        · exact hno q (by omega) hw
theorem v1050 {c : Cf} {e : Ev5} : GivesV (sxFn E1050 A1050 C1050 [.agg (encC c), .agg (encV e)] [] KS) (I (wrV c e)) := by
  rw [← sxFnI_eq, n1050]
  unfold wrV
  cases h1 : e.kind == 2 with
  | false => rw [Bool.not_false, br_t]; exact givesV
  | true =>
    rw [Bool.not_true, br_f]
    cases h2 : e.ak == 2 with
    | false => rw [Bool.not_false, br_t]; exact givesV
    | true =>
      rw [Bool.not_true, br_f]
      cases h3 : chkC c == 0 with
      | false => rw [Bool.not_false, br_t]; exact givesV
      | true =>
        have hc : chkC c = 0 := eq_of_beq h3
        rw [Bool.not_true, br_f, br_t, itB_def]
        obtain ⟨⟨a1, a2⟩, ⟨b1, b2⟩, ⟨c1, c2⟩, ⟨d1, d2⟩, ⟨e1, e2⟩, _⟩ := chk_zero hc
        have hsz : sizeN c.a.toNat c.b.toNat c.c.toNat c.d.toNat c.e.toNat ≤ 1000 := by
          unfold sizeN
          have h1 : c.b.toNat * c.c.toNat ≤ 8 * 16 := Nat.mul_le_mul (by omega) (by omega)
          have h2 : (1 + c.d.toNat) * (c.b.toNat * c.c.toNat) ≤ 5 * (8 * 16) := Nat.mul_le_mul (by omega) h1
          omega
        exact l1050 hc (sizeN c.a.toNat c.b.toNat c.c.toNat c.d.toNat c.e.toNat) 0 big (by omega) (by unfold big; omega) fun q hq => absurd hq (by omega)
end Gd
end Go.Sx.Pr

/- GuardTells: the contracts of Seen, Sees and both layers' Written. -/
namespace Go.Sx.Pr
open Go Go.Sx Go.Sx.Md Go.Proofs
namespace Gd
open Go Go.Sx Go.Sx.Md Go.Proofs
set_option maxRecDepth 100000
/-- A row's cells. -/
def rowC (f : Nat → Nat → DV) (i : Nat) : List SV := (List.range 33).map fun j => .d (f i j)
def okRow (n : Nat) (f : Nat → Nat → DV) : Bool := (List.range n).all fun i => isC ctsW (rowC f i)
def rowD (f : Nat → Nat → DV) : Nat → Wk := fun i => decW (rowC f i)
theorem okRow_W {n : Nat} {a : Nat → Wk} : okRow n (rowW a) = true := by
  unfold okRow
  rw [List.all_eq_true]
  intro i _
  kernel_rfl
theorem rowD_W {a : Nat → Wk} : rowD (rowW a) = a := by
  funext i
  kernel_rfl
theorem rowD_eq {n : Nat} {f : Nat → Nat → DV} (h : okRow n f = true) : ∀ i, i < n → ∀ j, j < 33 → rowW (rowD f) i j = f i j := by
  intro i hi j hj
  unfold okRow at h
  rw [List.all_eq_true] at h
  have e := enc_decW (h i (List.mem_range.2 hi))
  show lkD ((encW (decW (rowC f i))).map dv) j = f i j
  rw [e]
  unfold rowC
  simp [lkD, List.getD_eq_getElem?_getD, hj, dv]
theorem row_weak {n : Nat} {f : Nat → Nat → DV} (h : okRow n f = true) : ∀ cx w u, SRep cx w (.d (.sl 33 n f)) u → SRep cx w (.d (.sl 33 n (rowW (rowD f)))) u := fun cx w u hu => by
  simp only [SRep] at hu ⊢
  exact sl_ext hu (rowD_eq h)
theorem smallG_at {ws : List Wk} (h : smallG ws = true) {x : Wk} (hx : x ∈ ws) : (0 ≤ x.C ∧ x.C ≤ 60) ∧ (0 ≤ x.borrow ∧ x.borrow ≤ 60) := by
  have := List.all_eq_true.1 h x hx
  simpa using this
theorem wsFrom_mem {a : Nat → Wk} {n i : Nat} (h : i < n) : a i ∈ wsFrom a 0 n := by
  unfold wsFrom
  exact List.mem_map_of_mem (by simp [List.mem_range'_1, h])

def F1047p (xs : List SV) : List (Bool × SV) := match xs with
  | [.d (.sl 33 n f)] => [(okRow n f && (decide (n ≤ 8) && smallG (wsFrom (rowD f) 0 n)), .d (.ints .i64 (seenV (wsFrom (rowD f) 0 n))))]
  | _ => []
def F1048p (xs : List SV) : List (Bool × SV) := match xs with
  | [.d (.sl 33 n f), .d (.v (.int .i64 b))] => [(okRow n f && (decide (n ≤ 8) && (decide (0 ≤ b) && decide (b < 1000))), B (seesL (wsFrom (rowD f) 0 n) b))]
  | _ => []
def argC18 : SV → Option Cf
  | .agg [.d (.v (.int .i64 a)), .d (.v (.int .i64 b)), .d (.v (.int .i64 c)), .d (.v (.int .i64 d)), .d (.v (.int .i64 e)), .d (.v (.int .i64 f)), .d (.v (.int .i64 g)), .d (.v (.int .u64 l))] => some ⟨a, b, c, d, e, f, g, l⟩
  | _ => none
theorem argC18_eq {s : SV} {x : Cf} (h : argC18 s = some x) : s = .agg (encC x) := by
  unfold argC18 at h
  split at h
  · simp only [Option.some.injEq] at h; rw [← h]; rfl
  · cases h
def argV : SV → Option Ev5
  | .agg [.d (.v (.int .i64 a)), .d (.v (.int .i64 b)), .d (.v (.int .i64 c)), .d (.v (.int .i64 d)), .d (.v (.int .i64 e)), .d (.v (.int .u64 f)), .d (.v (.int .u64 g)), .d (.v (.int .i64 h)), .d (.v (.bool i)), .d (.v (.int .i64 j)), .d (.v (.int .i64 k)), .d (.v (.int .u64 l)), .d (.v (.int .i64 m)), .d (.ints .u64 n), .d (.v (.int .i64 o)),
      .d (.v (.int .i64 p)), .d (.v (.int .i64 q)), .d (.v (.int .u64 r)), .d (.v (.int .u64 s)), .d (.v (.int .u64 t))] => some ⟨a, b, c, d, e, f, g, h, j, k, l, m, o, p, q, r, s, t, i, n⟩
  | _ => none
theorem argV_eq {s : SV} {x : Ev5} (h : argV s = some x) : s = .agg (encV x) := by
  unfold argV at h
  split at h
  · simp only [Option.some.injEq] at h; rw [← h]; rfl
  · cases h
def F1049p (xs : List SV) : List (Bool × SV) := match xs with
  | [a0, a1] => match argC18 a0, argV a1 with
    | some c, some e => [(true, .tup [I (wrV c e), B (decide (wrV c e ≥ 0))])]
    | _, _ => []
  | _ => []
def F1050p (xs : List SV) : List (Bool × SV) := match xs with
  | [a0, a1] => match argC18 a0, argV a1 with
    | some c, some e => [(true, I (wrV c e))]
    | _, _ => []
  | _ => []
end Gd
def S1047p {Ω : Type} : Spec Ω := pureSpec [.any] Gd.F1047p
theorem g1047p : Good1 Try.prog 30 S1047p := pureGoodL Try.func30 (by kernel_rfl) c1047 e1047 mix (A := A1047) fun az r hF => by
  unfold Gd.F1047p at hF
  split at hF
  · rename_i n f
    simp only [firstP] at hF
    obtain ⟨hb, hF⟩ := cond_some hF
    simp only [Option.some.injEq] at hF
    subst hF
    simp only [Bool.and_eq_true, decide_eq_true_eq] at hb
    obtain ⟨r0, H, y, h1, h2, h3⟩ := Gd.v1047 (n := n) (a := Gd.rowD f) hb.2.1 fun i hi => Gd.smallG_at hb.2.2 (Gd.wsFrom_mem hi)
    exact ⟨[.d (.sl 33 n (rowW (Gd.rowD f)))], r0, y, H, fun cx w u hu => by
      match u, hu with
      | [v], hu => simp only [SRepL, and_true] at hu ⊢; exact Gd.row_weak hb.1 cx w v hu
      | [], hu => simp [SRepL] at hu
      | _ :: _ :: _, hu => simp [SRepL] at hu, h1, h2, h3⟩
  · cases hF
def S1048p {Ω : Type} : Spec Ω := pureSpec [.any, .any] Gd.F1048p
theorem g1048p : Good1 Try.prog 31 S1048p := pureGoodL Try.func31 (by kernel_rfl) c1048 e1048 mix (A := A1048) fun az r hF => by
  unfold Gd.F1048p at hF
  split at hF
  · rename_i n f b
    simp only [firstP] at hF
    obtain ⟨hb, hF⟩ := cond_some hF
    simp only [Option.some.injEq] at hF
    subst hF
    simp only [Bool.and_eq_true, decide_eq_true_eq] at hb
    obtain ⟨H, hH⟩ := Gd.v1048 (n := n) (a := Gd.rowD f) (b := b) hb.2.1 hb.2.2
    exact ⟨[.d (.sl 33 n (rowW (Gd.rowD f))), I b], _, B (Gd.seesL (Gd.wsFrom (Gd.rowD f) 0 n) b), H, fun cx w u hu => by
      match u, hu with
      | [v, v2], hu => simp only [SRepL, and_true] at hu ⊢; exact ⟨Gd.row_weak hb.1 cx w v hu.1, hu.2⟩
      | [], hu => simp [SRepL] at hu
      | [_], hu => simp [SRepL] at hu
      | _ :: _ :: _ :: _, hu => simp [SRepL] at hu, hH, rfl, fun _ _ _ h => h⟩
  · cases hF
def S1049p {Ω : Type} : Spec Ω := pureSpec [.any, .any] Gd.F1049p
theorem g1049p : Good1 Try.prog 32 S1049p := pureGoodL Try.func32 (by kernel_rfl) c1049 e1049 mix (A := A1049) fun az r hF => by
  unfold Gd.F1049p at hF
  split at hF
  · split at hF
    · rename_i c e e0 e1
      simp only [firstP, cond_true, Option.some.injEq] at hF
      subst hF
      rw [Gd.argC18_eq e0, Gd.argV_eq e1]
      obtain ⟨H, hH⟩ := Gd.v1049 (c := c) (e := e)
      exact ⟨_, _, _, H, fun _ _ _ h => h, hH, rfl, fun _ _ _ h => h⟩
    · cases hF
  · cases hF
def S1050p {Ω : Type} : Spec Ω := pureSpec [.any, .any] Gd.F1050p
theorem g1050p : Good1 Try.prog 33 S1050p := pureGoodL Try.func33 (by kernel_rfl) c1050 e1050 mix (A := A1050) fun az r hF => by
  unfold Gd.F1050p at hF
  split at hF
  · split at hF
    · rename_i c e e0 e1
      simp only [firstP, cond_true, Option.some.injEq] at hF
      subst hF
      rw [Gd.argC18_eq e0, Gd.argV_eq e1]
      obtain ⟨H, hH⟩ := Gd.v1050 (c := c) (e := e)
      exact ⟨_, _, _, H, fun _ _ _ h => h, hH, rfl, fun _ _ _ h => h⟩
    · cases hF
  · cases hF
end Go.Sx.Pr

namespace Go.Sx.Pr
open Go Go.Sx Go.Proofs
set_option maxRecDepth 100000
def K1042_1 : CC := .seq (.reg false [⟨some 32, .mv (.t 1), none, 0⟩,
   ⟨some 33, .ixs 1 (.t 32) (.c (.d (.v (.int .i64 0)))), none, 0⟩,
   ⟨some 34, .ld 1 false (.t 33), none, 0⟩,
   ⟨some 4, .mv (.t 34), none, 0⟩,
   ⟨some 5, .mv (.c (.d (.v (.bool true)))), none, 0⟩])
 (.ret)
def L1042_2 : CC := .seq (.reg false [⟨some 19, .bin .lss (.t 18) (.t 17), none, 0⟩])
 (.seq (.cond 19 (.skip)
   (.exit 0))
 (.seq (.block 1 (.seq (.reg false [⟨some 20, .mv (.t 18), none, 0⟩,
     ⟨some 21, .ixs 1 (.t 16) (.t 18), none, 0⟩,
     ⟨some 22, .ld 1 false (.t 21), none, 0⟩,
     ⟨some 6, .mv (.t 20), none, 0⟩,
     ⟨some 7, .mv (.t 22), none, 0⟩])
   (.seq (.reg false [⟨some 23, .mv (.t 7), none, 0⟩,
     ⟨some 24, .mv (.t 1), none, 0⟩,
     ⟨some 25, .ixs 1 (.t 24) (.c (.d (.v (.int .i64 0)))), none, 0⟩,
     ⟨some 26, .ld 1 false (.t 25), none, 0⟩,
     ⟨some 27, .mv (.t 6), none, 0⟩,
     ⟨some 28, .conv .u64 (.t 27), none, 0⟩,
     ⟨some 29, .bin .add (.t 26) (.t 28), none, 0⟩,
     ⟨some 30, .eq .int true (.t 23) (.t 29), none, 0⟩])
   (.cond 30 (.seq (.reg false [⟨some 4, .mv (.c (.d (.v (.int .u64 0)))), none, 0⟩,
       ⟨some 5, .mv (.c (.d (.v (.bool false)))), none, 0⟩])
     (.ret))
     (.skip)))))
 (.reg false [⟨some 31, .bin .add (.t 18) (.c (.d (.v (.int .i64 1)))), none, 0⟩,
   ⟨some 18, .mv (.t 31), none, 0⟩])))
def K1042_3 : CC := .reg false [⟨some 16, .mv (.t 1), none, 0⟩,
   ⟨some 17, .len (.t 16), none, 0⟩,
   ⟨some 18, .mv (.c (.d (.v (.int .i64 0)))), none, 0⟩]
def K1042_4 : CC := .seq (.reg false [⟨some 8, .mv (.t 1), none, 0⟩,
   ⟨some 9, .len (.t 8), none, 0⟩,
   ⟨some 10, .mv (.t 0), none, 0⟩,
   ⟨some 11, .eq .int true (.t 9) (.t 10), none, 0⟩,
   ⟨some 12, .mv (.t 11), none, 0⟩,
   ⟨some 13, .mv (.t 0), some (12, false), 0⟩,
   ⟨some 14, .bin .lss (.t 13) (.c (.d (.v (.int .i64 1)))), some (12, false), 0⟩,
   ⟨some 15, .pick (.t 12) (.c (.d (.v (.bool true)))) (.t 14), none, 0⟩])
 (.cond 15 (.seq (.reg false [⟨some 4, .mv (.c (.d (.v (.int .u64 0)))), none, 0⟩,
     ⟨some 5, .mv (.c (.d (.v (.bool false)))), none, 0⟩])
   (.ret))
   (.skip))
def K1042_5 : CC := .reg false [⟨some 4, .mv (.c (.d (.v (.int .u64 0)))), none, 0⟩,
   ⟨some 5, .mv (.c (.d (.v (.bool false)))), none, 0⟩]
/-- coatcheck/guard.Payload -/
def C1042 : CF := ⟨2, [(4, none), (5, none)],
 .seq K1042_5 (.seq K1042_4 (.seq (.seq K1042_3 (.block 0 (.loop L1042_2))) K1042_1))⟩
theorem c1042 : coF Try.prog Try.f28 = some C1042 := by kernel_rfl
def A1042 : Ann := { keep := [0, 1, 4, 5, 6, 7, 15, 16, 17, 18, 19, 30], live := [(0, [1, 16, 17, 18])] }
def E1042 {Ω : Type} : Env Ω := enil
theorem e1042 : GoodE Try.prog E1042 := GoodE.nil
def S1042 {Ω : Type} : Spec Ω := inl E1042 A1042 C1042 false
theorem g1042 : Good1 Try.prog 28 S1042 := Good1.inl e1042 mix Try.func28 (by kernel_rfl) c1042 A1042 false
end Go.Sx.Pr

namespace Go.Sx.Pr
open Go Go.Sx Go.Proofs
set_option maxRecDepth 100000
/-- slices.Sort[[]int,int] -/
def C1079 : CF := ⟨1, [],
 .seq (.reg false [⟨some 3, .mv (.t 0), none, 0⟩,
   ⟨some 4, .len (.t 3), none, 0⟩,
   ⟨some 2, .mv (.t 4), none, 0⟩])
 (.reg false [⟨some 5, .mv (.t 0), none, 0⟩,
   ⟨some 6, .mv (.t 2), none, 0⟩,
   ⟨some 7, .mv (.t 2), none, 0⟩,
   ⟨some 8, .conv .u64 (.t 7), none, 0⟩,
   ⟨some 9, .call (.c (.fn (.func 89) [] [])) [.t 8], none, 0⟩,
   ⟨some 10, .call (.c (.fn (.func 88) [] [])) [.t 5, .c (.d (.v (.int .i64 0))), .t 6, .t 9], none, 0⟩])⟩
theorem c1079 : coF Try.prog Try.f61 = some C1079 := by kernel_rfl
def A1079 : Ann := { keep := [0, 2], live := [] }
def E1079 {Ω : Type} : Env Ω := econs 88 S1085 (econs 89 S1086 (enil))
theorem e1079 : GoodE Try.prog E1079 := GoodE.cons g1085 (GoodE.cons g1086 (GoodE.nil))
def S1079 {Ω : Type} : Spec Ω := inl E1079 A1079 C1079 false
theorem g1079 : Good1 Try.prog 61 S1079 := Good1.inl e1079 mix Try.func61 (by kernel_rfl) c1079 A1079 false
def K1047q_1 : CC := .seq (.reg false [⟨some 40, .mv (.t 3), none, 0⟩,
   ⟨some 41, .call (.c (.fn (.func 61) [] [])) [.t 40], none, 0⟩])
 (.seq (.reg false [⟨some 42, .mv (.t 3), none, 0⟩,
   ⟨some 43, .call (.c (.fn (.func 62) [] [])) [.t 42], none, 0⟩,
   ⟨some 2, .mv (.t 43), none, 0⟩])
 (.ret))
def K1047q_2 : CC := .reg false [⟨some 39, .bin .add (.t 8) (.c (.d (.v (.int .i64 1)))), none, 0⟩,
   ⟨some 8, .mv (.t 39), none, 0⟩]
def K1047q_3 : CC := .seq (.reg false [⟨some 26, .fa 8 (.t 5), none, 0⟩,
   ⟨some 27, .ld 1 false (.t 26), none, 0⟩,
   ⟨some 28, .mv (.t 27), none, 0⟩,
   ⟨some 29, .fa 22 (.t 5), some (28, true), 0⟩,
   ⟨some 30, .ld 1 false (.t 29), some (28, true), 0⟩,
   ⟨some 31, .eq .int true (.t 30) (.c (.d (.v (.int .i64 0)))), some (28, true), 0⟩,
   ⟨some 32, .pick (.t 28) (.t 31) (.c (.d (.v (.bool false)))), none, 0⟩])
 (.cond 32 (.reg false [⟨some 33, .mv (.t 3), none, 0⟩,
     ⟨some 34, .fa 22 (.t 5), none, 0⟩,
     ⟨some 35, .ld 1 false (.t 34), none, 0⟩,
     ⟨some 36, .bin .sub (.t 35) (.c (.d (.v (.int .i64 1)))), none, 0⟩,
     ⟨some 37, .bsl 3 1 1 [.d (.v (.int .i64 0))] [(0, 1, .t 36)], none, 0⟩,
     ⟨some 38, .app 3 1 8 (some .i64) (.t 33) (.t 37), none, 0⟩,
     ⟨some 3, .mv (.t 38), none, 0⟩])
   (.skip))
def K1047q_4 : CC := .seq (.reg false [⟨some 12, .fa 0 (.t 5), none, 0⟩,
   ⟨some 13, .ld 1 false (.t 12), none, 0⟩,
   ⟨some 14, .eq .int false (.t 13) (.c (.d (.v (.int .i64 61)))), none, 0⟩,
   ⟨some 15, .mv (.t 14), none, 0⟩,
   ⟨some 16, .fa 21 (.t 5), some (15, true), 0⟩,
   ⟨some 17, .ld 1 false (.t 16), some (15, true), 0⟩,
   ⟨some 18, .eq .int true (.t 17) (.c (.d (.v (.int .i64 0)))), some (15, true), 0⟩,
   ⟨some 19, .pick (.t 15) (.t 18) (.c (.d (.v (.bool false)))), none, 0⟩])
 (.cond 19 (.reg false [⟨some 20, .mv (.t 3), none, 0⟩,
     ⟨some 21, .fa 21 (.t 5), none, 0⟩,
     ⟨some 22, .ld 1 false (.t 21), none, 0⟩,
     ⟨some 23, .bin .sub (.t 22) (.c (.d (.v (.int .i64 1)))), none, 0⟩,
     ⟨some 24, .bsl 3 1 1 [.d (.v (.int .i64 0))] [(0, 1, .t 23)], none, 0⟩,
     ⟨some 25, .app 3 1 8 (some .i64) (.t 20) (.t 24), none, 0⟩,
     ⟨some 3, .mv (.t 25), none, 0⟩])
   (.skip))
def K1047q_5 : CC := .reg false [⟨some 10, .ixs 33 (.t 6) (.t 8), none, 0⟩,
   ⟨some 11, .ld 33 true (.t 10), none, 0⟩,
   ⟨some 5, .newc 60 [.d (.v (.int .i64 0)), .d (.v (.int .i64 0)), .d (.v (.int .u64 0)), .d (.v (.int .u64 0)), .d (.v (.int .i64 0)), .d (.v (.bool false)), .d (.v (.int .i64 0)), .d (.v (.int .i64 0)), .d (.v (.bool false)), .d (.v (.int .u64 0)), .d (.v (.slice none 0 0)), .d (.v (.int .u64 0)), .d (.v (.slice none 0 0)), .d (.v (.int .u64 0)), .d (.v (.slice none 0 0)), .d (.v (.int .u64 0)), .d (.v (.slice none 0 0)), .d (.v (.slice none 0 0)), .d (.v (.int .i64 0)), .d (.v (.int .i64 0)), .d (.v (.int .i64 0)), .d (.v (.int .i64 0)), .d (.v (.int .i64 0)), .d (.v (.int .u64 0)), .d (.v (.int .u64 0)), .d (.v (.int .u64 0)), .d (.v (.int .u64 0)), .d (.v (.int .u64 0)), .d (.v (.int .i64 0)), .d (.v (.slice none 0 0)), .d (.v (.int .u64 0)), .d (.v (.int .i64 0)), .d (.v (.bool false))], none, 0⟩,
   ⟨none, .st 33 (.t 5) (.t 11), none, 0⟩]
def K1047q_6 : CC := .cond 9 (.skip)
   (.exit 0)
def K1047q_7 : CC := .reg false [⟨some 9, .bin .lss (.t 8) (.t 7), none, 0⟩]
def L1047q_8 : CC := .seq K1047q_7 (.seq K1047q_6 (.seq (.block 1 (.seq K1047q_5 (.seq K1047q_4 K1047q_3))) K1047q_2))
def K1047q_9 : CC := .reg false [⟨some 6, .mv (.t 0), none, 0⟩,
   ⟨some 7, .len (.t 6), none, 0⟩,
   ⟨some 8, .mv (.c (.d (.v (.int .i64 0)))), none, 0⟩]
def K1047q_10 : CC := .reg false [⟨some 3, .mv (.c (.d (.v (.slice none 0 0)))), none, 0⟩]
def K1047q_11 : CC := .reg false [⟨some 2, .mv (.c (.d (.v (.slice none 0 0)))), none, 0⟩]
/-- coatcheck/guard.Seen -/
def C1047q : CF := ⟨1, [(2, none)],
 .seq K1047q_11 (.seq K1047q_10 (.seq (.seq K1047q_9 (.block 0 (.loop L1047q_8))) K1047q_1))⟩
theorem c1047q : coF Try.prog Try.f30 = some C1047q := by kernel_rfl
def A1047q : Ann := { keep := [0, 2, 3, 5, 6, 7, 8, 9, 19, 32], live := [(0, [3, 6, 7, 8])] }
def E1047q {Ω : Type} : Env Ω := econs 61 S1079 (econs 62 S1080 (enil))
theorem e1047q : GoodE Try.prog E1047q := GoodE.cons g1079 (GoodE.cons g1080 (GoodE.nil))
def S1047q {Ω : Type} : Spec Ω := inl E1047q A1047q C1047q false
theorem g1047q : Good1 Try.prog 30 S1047q := Good1.inl e1047q mix Try.func30 (by kernel_rfl) c1047q A1047q false
def K1041_1 : CC := .seq (.reg false [⟨some 9, .bsl 27 1 3 [.d (.v (.int .u64 0))] [(0, 1, .c (.d (.v (.int .u64 7)))), (1, 1, .c (.d (.v (.int .u64 8)))), (2, 1, .c (.d (.v (.int .u64 9))))], none, 0⟩,
   ⟨some 10, .call (.c (.fn (.func 28) [] [])) [.c (.d (.v (.int .i64 3))), .t 9], none, 0⟩,
   ⟨some 8, .mv (.t 10), none, 0⟩,
   ⟨some 11, .ext 0 (.t 8), none, 0⟩,
   ⟨some 12, .ext 1 (.t 8), none, 0⟩,
   ⟨some 2, .mv (.t 11), none, 0⟩,
   ⟨some 3, .mv (.t 12), none, 0⟩])
 (.seq (.reg false [⟨some 13, .mv (.t 1), none, 0⟩,
   ⟨some 14, .len (.t 13), none, 0⟩,
   ⟨some 15, .eq .int false (.t 14) (.c (.d (.v (.int .i64 1)))), none, 0⟩,
   ⟨some 16, .mv (.t 15), none, 0⟩,
   ⟨some 17, .mv (.t 1), some (16, true), 0⟩,
   ⟨some 18, .ixs 1 (.t 17) (.c (.d (.v (.int .i64 0)))), some (16, true), 0⟩,
   ⟨some 19, .ld 1 false (.t 18), some (16, true), 0⟩,
   ⟨some 20, .eq .int false (.t 19) (.c (.d (.v (.int .i64 2)))), some (16, true), 0⟩,
   ⟨some 21, .pick (.t 16) (.t 20) (.c (.d (.v (.bool false)))), none, 0⟩,
   ⟨some 22, .mv (.t 21), none, 0⟩,
   ⟨some 23, .mv (.t 2), some (22, true), 0⟩,
   ⟨some 24, .eq .int false (.t 23) (.c (.d (.v (.int .u64 7)))), some (22, true), 0⟩,
   ⟨some 25, .pick (.t 22) (.t 24) (.c (.d (.v (.bool false)))), none, 0⟩,
   ⟨some 26, .mv (.t 25), none, 0⟩,
   ⟨some 27, .mv (.t 3), some (26, true), 0⟩,
   ⟨some 28, .pick (.t 26) (.t 27) (.c (.d (.v (.bool false)))), none, 0⟩,
   ⟨some 0, .mv (.t 28), none, 0⟩])
 (.ret))
def K1041_2 : CC := .reg false [⟨some 4, .bld [.d (.v (.int .i64 0)), .d (.v (.int .i64 0)), .d (.v (.int .u64 0)), .d (.v (.int .u64 0)), .d (.v (.int .i64 0)), .d (.v (.bool false)), .d (.v (.int .i64 0)), .d (.v (.int .i64 0)), .d (.v (.bool false)), .d (.v (.int .u64 0)), .d (.v (.slice none 0 0)), .d (.v (.int .u64 0)), .d (.v (.slice none 0 0)), .d (.v (.int .u64 0)), .d (.v (.slice none 0 0)), .d (.v (.int .u64 0)), .d (.v (.slice none 0 0)), .d (.v (.slice none 0 0)), .d (.v (.int .i64 0)), .d (.v (.int .i64 0)), .d (.v (.int .i64 0)), .d (.v (.int .i64 0)), .d (.v (.int .i64 0)), .d (.v (.int .u64 0)), .d (.v (.int .u64 0)), .d (.v (.int .u64 0)), .d (.v (.int .u64 0)), .d (.v (.int .u64 0)), .d (.v (.int .i64 0)), .d (.v (.slice none 0 0)), .d (.v (.int .u64 0)), .d (.v (.int .i64 0)), .d (.v (.bool false))] [(0, 1, .c (.d (.v (.int .i64 61)))), (21, 1, .c (.d (.v (.int .i64 3))))], none, 0⟩,
   ⟨some 5, .bld [.d (.v (.int .i64 0)), .d (.v (.int .i64 0)), .d (.v (.int .u64 0)), .d (.v (.int .u64 0)), .d (.v (.int .i64 0)), .d (.v (.bool false)), .d (.v (.int .i64 0)), .d (.v (.int .i64 0)), .d (.v (.bool false)), .d (.v (.int .u64 0)), .d (.v (.slice none 0 0)), .d (.v (.int .u64 0)), .d (.v (.slice none 0 0)), .d (.v (.int .u64 0)), .d (.v (.slice none 0 0)), .d (.v (.int .u64 0)), .d (.v (.slice none 0 0)), .d (.v (.slice none 0 0)), .d (.v (.int .i64 0)), .d (.v (.int .i64 0)), .d (.v (.int .i64 0)), .d (.v (.int .i64 0)), .d (.v (.int .i64 0)), .d (.v (.int .u64 0)), .d (.v (.int .u64 0)), .d (.v (.int .u64 0)), .d (.v (.int .u64 0)), .d (.v (.int .u64 0)), .d (.v (.int .i64 0)), .d (.v (.slice none 0 0)), .d (.v (.int .u64 0)), .d (.v (.int .i64 0)), .d (.v (.bool false))] [(8, 1, .c (.d (.v (.bool true)))), (22, 1, .c (.d (.v (.int .i64 3))))], none, 0⟩,
   ⟨some 6, .bsl 60 33 2 [.d (.v (.int .i64 0)), .d (.v (.int .i64 0)), .d (.v (.int .u64 0)), .d (.v (.int .u64 0)), .d (.v (.int .i64 0)), .d (.v (.bool false)), .d (.v (.int .i64 0)), .d (.v (.int .i64 0)), .d (.v (.bool false)), .d (.v (.int .u64 0)), .d (.v (.slice none 0 0)), .d (.v (.int .u64 0)), .d (.v (.slice none 0 0)), .d (.v (.int .u64 0)), .d (.v (.slice none 0 0)), .d (.v (.int .u64 0)), .d (.v (.slice none 0 0)), .d (.v (.slice none 0 0)), .d (.v (.int .i64 0)), .d (.v (.int .i64 0)), .d (.v (.int .i64 0)), .d (.v (.int .i64 0)), .d (.v (.int .i64 0)), .d (.v (.int .u64 0)), .d (.v (.int .u64 0)), .d (.v (.int .u64 0)), .d (.v (.int .u64 0)), .d (.v (.int .u64 0)), .d (.v (.int .i64 0)), .d (.v (.slice none 0 0)), .d (.v (.int .u64 0)), .d (.v (.int .i64 0)), .d (.v (.bool false))] [(0, 33, .t 4), (33, 33, .t 5)], none, 0⟩,
   ⟨some 7, .call (.c (.fn (.func 30) [] [])) [.t 6], none, 0⟩,
   ⟨some 1, .mv (.t 7), none, 0⟩]
def K1041_3 : CC := .reg false [⟨some 0, .mv (.c (.d (.v (.bool false)))), none, 0⟩]
/-- coatcheck/coatchecklaw18.awake -/
def C1041 : CF := ⟨0, [(0, none)],
 .seq K1041_3 (.seq K1041_2 K1041_1)⟩
theorem c1041 : coF Try.prog Try.f27 = some C1041 := by kernel_rfl
def A1041 : Ann := { keep := [0, 1, 2, 3], live := [] }
def E1041 {Ω : Type} : Env Ω := econs 28 S1042 (econs 30 S1047q (enil))
theorem e1041 : GoodE Try.prog E1041 := GoodE.cons g1042 (GoodE.cons g1047q (GoodE.nil))
def S1041 {Ω : Type} : Spec Ω := conSpec [] FTrue
theorem g1041 : Good1 Try.prog 27 S1041 := trueGood Try.func27 (by kernel_rfl) c1041 (A := A1041) e1041 mix (by kernel_rfl)
end Go.Sx.Pr

namespace Go.Sx.Pr
open Go Go.Sx Go.Proofs
set_option maxRecDepth 100000
/-- coatcheck/guard.Clean -/
def C1051 : CF := ⟨3, [(6, none)],
 .seq (.reg false [⟨some 3, .box 36 8 (.t 0), none, 0⟩,
   ⟨some 5, .box 54 20 (.t 2), none, 0⟩,
   ⟨some 6, .mv (.c (.d (.v (.bool false)))), none, 0⟩])
 (.seq (.reg false [⟨some 10, .ld 8 true (.t 3), none, 0⟩,
   ⟨some 11, .ld 20 true (.t 5), none, 0⟩,
   ⟨some 12, .call (.c (.fn (.func 32) [] [])) [.t 10, .t 11], none, 0⟩,
   ⟨some 9, .mv (.t 12), none, 0⟩,
   ⟨some 13, .ext 0 (.t 9), none, 0⟩,
   ⟨some 14, .ext 1 (.t 9), none, 0⟩,
   ⟨some 7, .mv (.t 13), none, 0⟩,
   ⟨some 8, .mv (.t 14), none, 0⟩])
 (.seq (.reg false [⟨some 15, .mv (.t 8), none, 0⟩,
   ⟨some 16, .un .not (.t 15), none, 0⟩,
   ⟨some 17, .mv (.t 16), none, 0⟩,
   ⟨some 18, .mv (.t 1), some (17, false), 0⟩,
   ⟨some 19, .call (.c (.fn (.func 30) [] [])) [.t 18], some (17, false), 0⟩,
   ⟨some 20, .mv (.t 7), some (17, false), 0⟩,
   ⟨some 21, .call (.c (.fn (.func 69) [] [])) [.t 19, .t 20], some (17, false), 0⟩,
   ⟨some 22, .un .not (.t 21), some (17, false), 0⟩,
   ⟨some 23, .pick (.t 17) (.c (.d (.v (.bool true)))) (.t 22), none, 0⟩,
   ⟨some 6, .mv (.t 23), none, 0⟩])
 (.ret)))⟩
theorem c1051 : coF Try.prog Try.f34 = some C1051 := by kernel_rfl
def A1051 : Ann := { keep := [0, 1, 2, 3, 5, 6, 7, 8], live := [] }
def E1051 {Ω : Type} : Env Ω := econs 30 S1047p (econs 32 S1049p (econs 69 S91c (enil)))
theorem e1051 : GoodE Try.prog E1051 := GoodE.cons g1047p (GoodE.cons g1049p (GoodE.cons g91c (GoodE.nil)))
def S1051 {Ω : Type} : Spec Ω := inl E1051 A1051 C1051 false
theorem g1051 : Good1 Try.prog 34 S1051 := Good1.inl e1051 mix Try.func34 (by kernel_rfl) c1051 A1051 false
def K1011_1 : CC := .seq (.reg false [⟨some 79, .ld 8 true (.t 3), none, 0⟩,
   ⟨some 80, .ld 20 true (.t 5), none, 0⟩,
   ⟨some 81, .call (.c (.fn (.func 32) [] [])) [.t 79, .t 80], none, 0⟩,
   ⟨some 78, .mv (.t 81), none, 0⟩,
   ⟨some 82, .ext 0 (.t 78), none, 0⟩,
   ⟨some 83, .ext 1 (.t 78), none, 0⟩,
   ⟨some 11, .mv (.t 82), none, 0⟩,
   ⟨some 12, .mv (.t 83), none, 0⟩])
 (.seq (.reg false [⟨some 84, .ld 8 true (.t 3), none, 0⟩,
   ⟨some 85, .ld 20 true (.t 5), none, 0⟩,
   ⟨some 86, .call (.c (.fn (.func 33) [] [])) [.t 84, .t 85], none, 0⟩,
   ⟨some 13, .mv (.t 86), none, 0⟩])
 (.seq (.reg false [⟨some 87, .mv (.t 9), none, 0⟩,
   ⟨some 88, .mv (.t 8), none, 0⟩,
   ⟨some 89, .len (.t 88), none, 0⟩,
   ⟨some 90, .eq .int false (.t 87) (.t 89), none, 0⟩,
   ⟨some 91, .mv (.t 90), none, 0⟩,
   ⟨some 92, .mv (.t 11), some (91, true), 0⟩,
   ⟨some 93, .mv (.t 13), some (91, true), 0⟩,
   ⟨some 94, .eq .int false (.t 92) (.t 93), some (91, true), 0⟩,
   ⟨some 95, .pick (.t 91) (.t 94) (.c (.d (.v (.bool false)))), none, 0⟩,
   ⟨some 96, .mv (.t 95), none, 0⟩,
   ⟨some 97, .mv (.t 12), some (96, true), 0⟩,
   ⟨some 98, .mv (.t 13), some (96, true), 0⟩,
   ⟨some 99, .bin .geq (.t 98) (.c (.d (.v (.int .i64 0)))), some (96, true), 0⟩,
   ⟨some 100, .eq .bool false (.t 97) (.t 99), some (96, true), 0⟩,
   ⟨some 101, .pick (.t 96) (.t 100) (.c (.d (.v (.bool false)))), none, 0⟩,
   ⟨some 102, .mv (.t 101), none, 0⟩,
   ⟨some 103, .ld 8 true (.t 3), some (102, true), 0⟩,
   ⟨some 104, .mv (.t 1), some (102, true), 0⟩,
   ⟨some 105, .ld 20 true (.t 5), some (102, true), 0⟩,
   ⟨some 106, .call (.c (.fn (.func 34) [] [])) [.t 103, .t 104, .t 105], some (102, true), 0⟩,
   ⟨some 107, .mv (.t 13), some (102, true), 0⟩,
   ⟨some 108, .bin .lss (.t 107) (.c (.d (.v (.int .i64 0)))), some (102, true), 0⟩,
   ⟨some 109, .mv (.t 108), some (102, true), 0⟩,
   ⟨some 110, .mv (.t 1), some (109, false), 0⟩,
   ⟨some 111, .mv (.t 13), some (109, false), 0⟩,
   ⟨some 112, .call (.c (.fn (.func 31) [] [])) [.t 110, .t 111], some (109, false), 0⟩,
   ⟨some 113, .un .not (.t 112), some (109, false), 0⟩,
   ⟨some 114, .pick (.t 109) (.c (.d (.v (.bool true)))) (.t 113), some (102, true), 0⟩,
   ⟨some 115, .eq .bool false (.t 106) (.t 114), some (102, true), 0⟩,
   ⟨some 116, .pick (.t 102) (.t 115) (.c (.d (.v (.bool false)))), none, 0⟩,
   ⟨some 6, .mv (.t 116), none, 0⟩])
 (.ret)))
def L1011_2 : CC := .seq (.seq (.reg false [⟨some 57, .mv (.t 10), none, 0⟩,
   ⟨some 58, .bin .lss (.t 57) (.c (.d (.v (.int .i64 60)))), none, 0⟩])
 (.cond 58 (.skip)
   (.exit 2)))
 (.seq (.block 3 (.seq (.reg false [⟨some 61, .mv (.t 1), none, 0⟩,
     ⟨some 62, .mv (.t 10), none, 0⟩,
     ⟨some 63, .call (.c (.fn (.func 31) [] [])) [.t 61, .t 62], none, 0⟩])
   (.cond 63 (.seq (.seq (.reg false [⟨some 64, .mv (.t 9), none, 0⟩,
       ⟨some 65, .mv (.t 8), none, 0⟩,
       ⟨some 66, .len (.t 65), none, 0⟩,
       ⟨some 67, .bin .geq (.t 64) (.t 66), none, 0⟩,
       ⟨some 68, .mv (.t 67), none, 0⟩,
       ⟨some 69, .mv (.t 8), some (68, false), 0⟩,
       ⟨some 70, .mv (.t 9), some (68, false), 0⟩,
       ⟨some 71, .ixs 1 (.t 69) (.t 70), some (68, false), 0⟩,
       ⟨some 72, .ld 1 false (.t 71), some (68, false), 0⟩,
       ⟨some 73, .mv (.t 10), some (68, false), 0⟩,
       ⟨some 74, .eq .int true (.t 72) (.t 73), some (68, false), 0⟩,
       ⟨some 75, .pick (.t 68) (.c (.d (.v (.bool true)))) (.t 74), none, 0⟩])
     (.cond 75 (.seq (.reg false [⟨some 6, .mv (.c (.d (.v (.bool false)))), none, 0⟩])
       (.ret))
       (.skip)))
     (.reg false [⟨some 76, .mv (.t 9), none, 0⟩,
       ⟨some 77, .bin .add (.t 76) (.c (.d (.v (.int .i64 1)))), none, 0⟩,
       ⟨some 9, .mv (.t 77), none, 0⟩]))
     (.skip))))
 (.reg false [⟨some 59, .mv (.t 10), none, 0⟩,
   ⟨some 60, .bin .add (.t 59) (.c (.d (.v (.int .i64 1)))), none, 0⟩,
   ⟨some 10, .mv (.t 60), none, 0⟩]))
def K1011_3 : CC := .reg false [⟨some 10, .mv (.c (.d (.v (.int .i64 0)))), none, 0⟩]
def K1011_4 : CC := .reg false [⟨some 9, .mv (.c (.d (.v (.int .i64 0)))), none, 0⟩]
def K1011_5 : CC := .reg false [⟨some 55, .mv (.t 1), none, 0⟩,
   ⟨some 56, .call (.c (.fn (.func 30) [] [])) [.t 55], none, 0⟩,
   ⟨some 8, .mv (.t 56), none, 0⟩]
def L1011_6 : CC := .seq (.seq (.reg false [⟨some 19, .mv (.t 7), none, 0⟩,
   ⟨some 20, .mv (.t 1), none, 0⟩,
   ⟨some 21, .len (.t 20), none, 0⟩,
   ⟨some 22, .bin .lss (.t 19) (.t 21), none, 0⟩])
 (.cond 22 (.skip)
   (.exit 0)))
 (.seq (.block 1 (.seq (.reg false [⟨some 25, .mv (.t 1), none, 0⟩,
     ⟨some 26, .mv (.t 7), none, 0⟩,
     ⟨some 27, .ixs 33 (.t 25) (.t 26), none, 0⟩,
     ⟨some 28, .fa 21 (.t 27), none, 0⟩,
     ⟨some 29, .ld 1 false (.t 28), none, 0⟩,
     ⟨some 30, .bin .lss (.t 29) (.c (.d (.v (.int .i64 0)))), none, 0⟩,
     ⟨some 31, .mv (.t 30), none, 0⟩,
     ⟨some 32, .mv (.t 1), some (31, false), 0⟩,
     ⟨some 33, .mv (.t 7), some (31, false), 0⟩,
     ⟨some 34, .ixs 33 (.t 32) (.t 33), some (31, false), 0⟩,
     ⟨some 35, .fa 21 (.t 34), some (31, false), 0⟩,
     ⟨some 36, .ld 1 false (.t 35), some (31, false), 0⟩,
     ⟨some 37, .bin .gtr (.t 36) (.c (.d (.v (.int .i64 60)))), some (31, false), 0⟩,
     ⟨some 38, .pick (.t 31) (.c (.d (.v (.bool true)))) (.t 37), none, 0⟩,
     ⟨some 39, .mv (.t 38), none, 0⟩,
     ⟨some 40, .mv (.t 1), some (39, false), 0⟩,
     ⟨some 41, .mv (.t 7), some (39, false), 0⟩,
     ⟨some 42, .ixs 33 (.t 40) (.t 41), some (39, false), 0⟩,
     ⟨some 43, .fa 22 (.t 42), some (39, false), 0⟩,
     ⟨some 44, .ld 1 false (.t 43), some (39, false), 0⟩,
     ⟨some 45, .bin .lss (.t 44) (.c (.d (.v (.int .i64 0)))), some (39, false), 0⟩,
     ⟨some 46, .pick (.t 39) (.c (.d (.v (.bool true)))) (.t 45), none, 0⟩,
     ⟨some 47, .mv (.t 46), none, 0⟩,
     ⟨some 48, .mv (.t 1), some (47, false), 0⟩,
     ⟨some 49, .mv (.t 7), some (47, false), 0⟩,
     ⟨some 50, .ixs 33 (.t 48) (.t 49), some (47, false), 0⟩,
     ⟨some 51, .fa 22 (.t 50), some (47, false), 0⟩,
     ⟨some 52, .ld 1 false (.t 51), some (47, false), 0⟩,
     ⟨some 53, .bin .gtr (.t 52) (.c (.d (.v (.int .i64 60)))), some (47, false), 0⟩,
     ⟨some 54, .pick (.t 47) (.c (.d (.v (.bool true)))) (.t 53), none, 0⟩])
   (.cond 54 (.seq (.reg false [⟨some 6, .mv (.c (.d (.v (.bool true)))), none, 0⟩])
     (.ret))
     (.skip))))
 (.reg false [⟨some 23, .mv (.t 7), none, 0⟩,
   ⟨some 24, .bin .add (.t 23) (.c (.d (.v (.int .i64 1)))), none, 0⟩,
   ⟨some 7, .mv (.t 24), none, 0⟩]))
def K1011_7 : CC := .reg false [⟨some 7, .mv (.c (.d (.v (.int .i64 0)))), none, 0⟩]
def K1011_8 : CC := .seq (.reg false [⟨some 16, .mv (.t 1), none, 0⟩,
   ⟨some 17, .len (.t 16), none, 0⟩,
   ⟨some 18, .bin .gtr (.t 17) (.c (.d (.v (.int .i64 8)))), none, 0⟩])
 (.cond 18 (.seq (.reg false [⟨some 6, .mv (.c (.d (.v (.bool true)))), none, 0⟩])
   (.ret))
   (.skip))
def K1011_9 : CC := .seq (.reg false [⟨some 14, .call (.c (.fn (.func 27) [] [])) [], none, 0⟩,
   ⟨some 15, .un .not (.t 14), none, 0⟩])
 (.cond 15 (.seq (.reg false [⟨some 6, .mv (.c (.d (.v (.bool false)))), none, 0⟩])
   (.ret))
   (.skip))
def K1011_10 : CC := .reg false [⟨some 3, .box 36 8 (.t 0), none, 0⟩,
   ⟨some 5, .box 54 20 (.t 2), none, 0⟩,
   ⟨some 6, .mv (.c (.d (.v (.bool false)))), none, 0⟩]
/-- coatcheck/coatchecklaw18.GuardTells -/
def C1011 : CF := ⟨3, [(6, none)],
 .seq K1011_10 (.seq K1011_9 (.seq K1011_8 (.seq (.seq K1011_7 (.block 0 (.loop L1011_6))) (.seq K1011_5 (.seq K1011_4 (.seq (.seq K1011_3 (.block 2 (.loop L1011_2))) K1011_1))))))⟩
theorem c1011 : coF Try.prog Try.f7 = some C1011 := by kernel_rfl
def A1011 : Ann := { keep := [0, 1, 2, 3, 5, 6, 7, 8, 9, 10, 11, 12, 13, 15, 18, 22, 54, 58, 63, 75], live := [(0, [1, 3, 5, 7]), (2, [1, 3, 5, 8, 9, 10])] }
def E1011 {Ω : Type} : Env Ω := econs 27 S1041 (econs 30 S1047p (econs 31 S1048p (econs 32 S1049p (econs 33 S1050p (econs 34 S1051 (enil))))))
theorem e1011 : GoodE Try.prog E1011 := GoodE.cons g1041 (GoodE.cons g1047p (GoodE.cons g1048p (GoodE.cons g1049p (GoodE.cons g1050p (GoodE.cons g1051 (GoodE.nil))))))
def Z1011_2 {Ω : Type} (it : Itr Ω) (K : SV → SH → Option Ω) : SE → SS → Option Ω := kblk 2 (kseq it E1011 A1011 K1011_1 0 (kfn C1011 K))
def Z1011_6 {Ω : Type} (it : Itr Ω) (K : SV → SH → Option Ω) : SE → SS → Option Ω := kblk 0 (kseq it E1011 A1011 (.seq K1011_5 (.seq K1011_4 (.seq (.seq K1011_3 (.block 2 (.loop L1011_2))) K1011_1))) 0 (kfn C1011 K))
end Go.Sx.Pr
