/- Contracts: Inside of the epoch's layer and of the document's. -/
import Derived.Test.YtpnnnklahanecaaI1
import Derived.Test.YtpnnnklahanecaaPA
namespace Go.Sx.Pr
open Go Go.Sx Go.Proofs
set_option maxRecDepth 100000

theorem br_t {α : Type} {x y : α} : br true x y = x := by first | exact _root_.id (Eq.refl _)
theorem br_f {α : Type} {x y : α} : br false x y = y := by first | exact _root_.id (Eq.refl _)

theorem n57 {Ω : Type} (it : Itr Ω) (K : SV → SH → Option Ω) (a b c d e f g l : Int) (ws : List Int) (w : Int) :
    sxFnI it E57 A57 C57 [cfgS a b c d e f g l, .d (.ints .u64 ws), I w] [] K =
    br (!chk a b c d e f g l == 0) (br (!chk a b c d e f g l == 0) (K (.tup [U 0, B false]) [.cells 24 [I a, I b, I c, I d, I e, I f, I g, U l], .cells 49 [I 0, I 0, I 0, I 0, I 0, I 0, I 0, U 0]]) (br (!(↑(List.length ws) : Int) == 0) (K (.tup [U 0, B false]) [.cells 24 [I a, I b, I c, I d, I e, I f, I g, U l], .cells 49 [I 0, I 0, I 0, I 0, I 0, I 0, I 0, U 0]]) (br (decide (w < 0)) (K (.tup [U 0, B false]) [.cells 24 [I a, I b, I c, I d, I e, I f, I g, U l], .cells 49 [I 0, I 0, I 0, I 0, I 0, I 0, I 0, U 0]]) (br (decide (w ≥ 0)) (K (.tup [U 0, B false]) [.cells 24 [I a, I b, I c, I d, I e, I f, I g, U l], .cells 49 [I 0, I 0, I 0, I 0, I 0, I 0, I 0, U 0]]) (K (.tup [U 0, B false]) [.cells 24 [I a, I b, I c, I d, I e, I f, I g, U l], .cells 49 [I 0, I 0, I 0, I 0, I 0, I 0, I 0, U 0]]))))) (br (!(↑(List.length ws) : Int) == szZ a b c d e f g l) (K (.tup [U 0, B false]) [.cells 24 [I a, I b, I c, I d, I e, I f, I g, U l], .cells 49 [I a, I b, I c, I d, I e, I f, I g, U l]]) (br (decide (w < 0)) (K (.tup [U 0, B false]) [.cells 24 [I a, I b, I c, I d, I e, I f, I g, U l], .cells 49 [I a, I b, I c, I d, I e, I f, I g, U l]]) (br (decide (w ≥ a)) (K (.tup [U 0, B false]) [.cells 24 [I a, I b, I c, I d, I e, I f, I g, U l], .cells 49 [I a, I b, I c, I d, I e, I f, I g, U l]]) (br (!chk a b c d e f g l == 0) (K (.tup [U 0, B false]) [.cells 24 [I a, I b, I c, I d, I e, I f, I g, U l], .cells 49 [I a, I b, I c, I d, I e, I f, I g, U l]]) (br (decide (IntKind.wrap .i64 (3 + IntKind.wrap .i64 (w * 1)) < 0)) (K (.tup [U 0, B false]) [.cells 24 [I a, I b, I c, I d, I e, I f, I g, U l], .cells 49 [I a, I b, I c, I d, I e, I f, I g, U l]]) (br (decide (w < 0)) none (br (decide (w ≥ a)) none (br (!chk a b c d e f g l == 0) none (br (inB (IntKind.wrap .i64 (3 + IntKind.wrap .i64 (w * 1))) (List.length ws)) (br (!band .u64 (List.getD ws (Int.toNat (IntKind.wrap .i64 (3 + IntKind.wrap .i64 (w * 1)))) 0) 1 == 1) (K (.tup [U 0, B false]) [.cells 24 [I a, I b, I c, I d, I e, I f, I g, U l], .cells 49 [I a, I b, I c, I d, I e, I f, I g, U l]]) (K (.tup [U (shr .u64 (List.getD ws (Int.toNat (IntKind.wrap .i64 (3 + IntKind.wrap .i64 (w * 1)))) 0) 1), B true]) [.cells 24 [I a, I b, I c, I d, I e, I f, I g, U l], .cells 49 [I a, I b, I c, I d, I e, I f, I g, U l]])) none))))))))) := by kernel_rfl
theorem n58 {Ω : Type} (it : Itr Ω) (K : SV → SH → Option Ω) (a b c d e f g l : Int) (ws : List Int) (w : Int) :
    sxFnI it E58 A58 C58 [cfgS a b c d e f g l, .d (.ints .u64 ws), I w] [] K =
    br (!chk a b c d e f g l == 0) (K (.tup [U 0, B false]) [.cells 24 [I a, I b, I c, I d, I e, I f, I g, U l]]) (br (chk a b c d e f g l == 0) (br (!(↑(List.length ws) : Int) == (↑(sizeN (Int.toNat a) (Int.toNat b) (Int.toNat c) (Int.toNat d) (Int.toNat e)) : Int)) (K (.tup [U 0, B false]) [.cells 24 [I a, I b, I c, I d, I e, I f, I g, U l], .dead, .dead, .dead, .row 105 3 (sizeN (Int.toNat a) (Int.toNat b) (Int.toNat c) (Int.toNat d) (Int.toNat e)) (qAll (Int.toNat a) (Int.toNat b) (Int.toNat c) (Int.toNat d) (Int.toNat e))]) (br (decide (w < 0)) (K (.tup [U 0, B false]) [.cells 24 [I a, I b, I c, I d, I e, I f, I g, U l], .dead, .dead, .dead, .row 105 3 (sizeN (Int.toNat a) (Int.toNat b) (Int.toNat c) (Int.toNat d) (Int.toNat e)) (qAll (Int.toNat a) (Int.toNat b) (Int.toNat c) (Int.toNat d) (Int.toNat e))]) (br (decide (w ≥ a)) (K (.tup [U 0, B false]) [.cells 24 [I a, I b, I c, I d, I e, I f, I g, U l], .dead, .dead, .dead, .row 105 3 (sizeN (Int.toNat a) (Int.toNat b) (Int.toNat c) (Int.toNat d) (Int.toNat e)) (qAll (Int.toNat a) (Int.toNat b) (Int.toNat c) (Int.toNat d) (Int.toNat e))]) (br (inB (IntKind.wrap .i64 (3 + w)) (List.length ws)) (br (Int.tmod (List.getD ws (Int.toNat (IntKind.wrap .i64 (3 + w))) 0) 2 == 0) (K (.tup [U 0, B false]) [.cells 24 [I a, I b, I c, I d, I e, I f, I g, U l], .dead, .dead, .dead, .row 105 3 (sizeN (Int.toNat a) (Int.toNat b) (Int.toNat c) (Int.toNat d) (Int.toNat e)) (qAll (Int.toNat a) (Int.toNat b) (Int.toNat c) (Int.toNat d) (Int.toNat e))]) (K (.tup [U (IntKind.wrap .u64 (Int.tdiv (List.getD ws (Int.toNat (IntKind.wrap .i64 (3 + w))) 0) 2)), B true]) [.cells 24 [I a, I b, I c, I d, I e, I f, I g, U l], .dead, .dead, .dead, .row 105 3 (sizeN (Int.toNat a) (Int.toNat b) (Int.toNat c) (Int.toNat d) (Int.toNat e)) (qAll (Int.toNat a) (Int.toNat b) (Int.toNat c) (Int.toNat d) (Int.toNat e))])) none)))) none) := by kernel_rfl

theorem u64B_get {ws : List Int} (h : u64B ws = true) {i : Nat} (hi : i < ws.length) : 0 ≤ ws.getD i 0 ∧ ws.getD i 0 ≤ 18446744073709551615 := by
  rw [List.getD_eq_getElem?_getD, List.getElem?_eq_getElem hi]
  have := List.all_eq_true.1 h _ (List.getElem_mem hi)
  simpa using this

theorem band_one {v : Int} (h : 0 ≤ v ∧ v ≤ 18446744073709551615) : band .u64 v 1 = v % 2 := by
  obtain ⟨n, rfl⟩ := Int.eq_ofNat_of_zero_le h.1
  unfold band
  have h1 : (BitVec.ofInt (IntKind.bits .u64) (n : Int) &&& BitVec.ofInt (IntKind.bits .u64) 1).toNat = n % 2 := by
    have e : (1 : Int) = ((1 : Nat) : Int) := rfl
    rw [e, BitVec.ofInt_natCast, BitVec.ofInt_natCast, BitVec.toNat_and, BitVec.toNat_ofNat, BitVec.toNat_ofNat]
    simp only [IntKind.bits]
    have h2 : n % 2 ^ 64 = n := Nat.mod_eq_of_lt (by omega)
    rw [h2]
    exact Nat.and_one_is_mod n
  rw [h1, IntKind.wrap_u64]
  omega

theorem half_wrap {v : Int} (h : 0 ≤ v ∧ v ≤ 18446744073709551615) : IntKind.wrap .u64 (v / 2) = v / 2 := by
  rw [IntKind.wrap_u64]; omega

theorem odd_of {v : Int} (h : ¬ v % 2 = 0) : v % 2 = 1 := by omega

theorem shr_one {v : Int} (h : 0 ≤ v) : shr .u64 v 1 = v / 2 := by
  unfold shr
  simp only [IntKind.bits]
  rw [show (2 : Int) ^ (min (1 : Int).toNat 64) = 2 from rfl, Int.fdiv_eq_ediv_of_nonneg _ (by omega)]

/-- The epoch that worker w announces as active. -/
def insV (a b c d e f g l : Int) (ws : List Int) (w : Int) : Int × Bool :=
  bif (chk a b c d e f g l == 0) && ((((ws.length : Nat) : Int) == szZ a b c d e f g l) && (decide (0 ≤ w) && (decide (w < a) && (ws.getD (3 + w).toNat 0 % 2 == 1)))) then (ws.getD (3 + w).toNat 0 / 2, true) else (0, false)

abbrev insT (a b c d e f g l : Int) (ws : List Int) (w : Int) : SV := .tup [U (insV a b c d e f g l ws w).1, B (insV a b c d e f g l ws w).2]

theorem insV_no {a b c d e f g l : Int} {ws : List Int} {w : Int} (h : ¬ (chk a b c d e f g l = 0 ∧ ((ws.length : Nat) : Int) = szZ a b c d e f g l ∧ 0 ≤ w ∧ w < a ∧ ws.getD (3 + w).toNat 0 % 2 = 1)) : insV a b c d e f g l ws w = (0, false) := by
  unfold insV
  have : ((chk a b c d e f g l == 0) && ((((ws.length : Nat) : Int) == szZ a b c d e f g l) && (decide (0 ≤ w) && (decide (w < a) && (ws.getD (3 + w).toNat 0 % 2 == 1))))) = false := by
    rw [Bool.eq_false_iff]
    intro h1
    simp only [Bool.and_eq_true, beq_iff_eq, decide_eq_true_eq] at h1
    exact h h1
  rw [this, cond_false]

theorem insV_yes {a b c d e f g l : Int} {ws : List Int} {w : Int} (h : chk a b c d e f g l = 0 ∧ ((ws.length : Nat) : Int) = szZ a b c d e f g l ∧ 0 ≤ w ∧ w < a ∧ ws.getD (3 + w).toNat 0 % 2 = 1) : insV a b c d e f g l ws w = (ws.getD (3 + w).toNat 0 / 2, true) := by
  unfold insV
  have : ((chk a b c d e f g l == 0) && ((((ws.length : Nat) : Int) == szZ a b c d e f g l) && (decide (0 ≤ w) && (decide (w < a) && (ws.getD (3 + w).toNat 0 % 2 == 1))))) = true := by
    simp only [Bool.and_eq_true, beq_iff_eq, decide_eq_true_eq]
    exact h
  rw [this, cond_true]

/-- A result, with some heap. -/
def Gives (o : Option (SV × SH)) (r : SV) : Prop := ∃ H, o = some (r, H)
abbrev KS : SV → SH → Option (SV × SH) := fun r h => some (r, h)
theorem Gives.br {b : Bool} {x y : Option (SV × SH)} {r : SV} (h1 : b = true → Gives x r) (h2 : b = false → Gives y r) : Gives (br b x y) r := by
  cases b with
  | true => exact h1 rfl
  | false => exact h2 rfl

theorem no_ins {a b c d e f g l : Int} {ws : List Int} {w : Int} {H : SH} (h : ¬ (chk a b c d e f g l = 0 ∧ ((ws.length : Nat) : Int) = szZ a b c d e f g l ∧ 0 ≤ w ∧ w < a ∧ ws.getD (3 + w).toNat 0 % 2 = 1)) : Gives (KS (.tup [U 0, B false]) H) (insT a b c d e f g l ws w) := by
  unfold insT
  rw [insV_no h]
  exact ⟨H, rfl⟩

theorem szZ_eq' {a b c d e f g l : Int} (h : chk a b c d e f g l = 0) : szZ a b c d e f g l = ((sizeN a.toNat b.toNat c.toNat d.toNat e.toNat : Nat) : Int) := by simp [szZ, h]

theorem v57 {a b c d e f g l : Int} {ws : List Int} {w : Int} (hw : u64B ws = true) : Gives (sxFn E57 A57 C57 [cfgS a b c d e f g l, .d (.ints .u64 ws), I w] [] KS) (insT a b c d e f g l ws w) := by
  rw [← sxFnI_eq, n57]
  by_cases hc : chk a b c d e f g l = 0
  · have h0 : (chk a b c d e f g l == 0) = true := by simp [hc]
    obtain ⟨⟨a1, a2⟩, _⟩ := chk_zero hc
    rw [h0]
    simp only [Bool.not_true, br_f]
    refine Gives.br (fun h => no_ins ?_) fun h => ?_
    · simp at h; omega
    have hl : ((ws.length : Nat) : Int) = szZ a b c d e f g l := by simpa using h
    refine Gives.br (fun h => no_ins ?_) fun h => ?_
    · simp at h; omega
    have hw0 : 0 ≤ w := by simpa using h
    rw [h]
    refine Gives.br (fun h => no_ins ?_) fun h => ?_
    · simp at h; omega
    have hw1 : w < a := by simpa using h
    rw [h]
    have e1 : IntKind.wrap .i64 (w * 1) = w := by rw [w64] <;> omega
    have e2 : IntKind.wrap .i64 (3 + w) = 3 + w := by rw [w64] <;> omega
    have hsz : (3 + w).toNat < ws.length := by
      have : szZ a b c d e f g l ≥ 3 + a := by
        rw [szZ_eq' hc]
        simp only [sizeN]
        omega
      omega
    rw [e1, e2]
    have h3 : decide (3 + w < 0) = false := by simp; omega
    have h4 : inB (3 + w) ws.length = true := by simp [inB]; omega
    rw [h3, h4]
    simp only [br_t, br_f]
    have hv := u64B_get hw hsz
    rw [band_one hv, shr_one hv.1]
    refine Gives.br (fun h => no_ins ?_) fun h => ?_
    · intro h5
      rw [h5.2.2.2.2] at h
      simp at h
    · have h5 : ws.getD (3 + w).toNat 0 % 2 = 1 := by simpa using h
      unfold insT
      rw [insV_yes ⟨hc, hl, hw0, hw1, h5⟩]
      exact ⟨_, rfl⟩
  · have h0 : (chk a b c d e f g l == 0) = false := by simp [hc]
    rw [h0]
    simp only [Bool.not_false, br_t]
    exact no_ins fun h => hc h.1

theorem v58 {a b c d e f g l : Int} {ws : List Int} {w : Int} (hw : u64B ws = true) : Gives (sxFn E58 A58 C58 [cfgS a b c d e f g l, .d (.ints .u64 ws), I w] [] KS) (insT a b c d e f g l ws w) := by
  rw [← sxFnI_eq, n58]
  by_cases hc : chk a b c d e f g l = 0
  · have h0 : (chk a b c d e f g l == 0) = true := by simp [hc]
    obtain ⟨⟨a1, a2⟩, _⟩ := chk_zero hc
    rw [h0, ← szZ_eq' hc]
    simp only [Bool.not_true, br_f, br_t]
    refine Gives.br (fun h => no_ins ?_) fun h => ?_
    · simp at h; omega
    have hl : ((ws.length : Nat) : Int) = szZ a b c d e f g l := by simpa using h
    refine Gives.br (fun h => no_ins ?_) fun h => ?_
    · simp at h; omega
    have hw0 : 0 ≤ w := by simpa using h
    refine Gives.br (fun h => no_ins ?_) fun h => ?_
    · simp at h; omega
    have hw1 : w < a := by simpa using h
    have e2 : IntKind.wrap .i64 (3 + w) = 3 + w := by rw [w64] <;> omega
    have hsz : (3 + w).toNat < ws.length := by
      have : szZ a b c d e f g l ≥ 3 + a := by
        rw [szZ_eq' hc]
        simp only [sizeN]
        omega
      omega
    rw [e2]
    have h4 : inB (3 + w) ws.length = true := by simp [inB]; omega
    rw [h4, br_t]
    have hv := u64B_get hw hsz
    rw [Int.tmod_eq_emod_of_nonneg hv.1, Int.tdiv_eq_ediv_of_nonneg hv.1]
    have e3 : IntKind.wrap .u64 (ws.getD (3 + w).toNat 0 / 2) = ws.getD (3 + w).toNat 0 / 2 := half_wrap hv
    rw [e3]
    refine Gives.br (fun h => no_ins ?_) fun h => ?_
    · intro h5
      rw [h5.2.2.2.2] at h
      simp at h
    · have h5 : ws.getD (3 + w).toNat 0 % 2 = 1 := odd_of (by simpa using h)
      unfold insT
      rw [insV_yes ⟨hc, hl, hw0, hw1, h5⟩]
      exact ⟨_, rfl⟩
  · have h0 : (chk a b c d e f g l == 0) = false := by simp [hc]
    rw [h0]
    simp only [Bool.not_false, br_t]
    exact no_ins fun h => hc h.1

def FIns : List (List Int) → Option (Bool × SV × SH)
  | [[a, b, c, d, e, f, g, l], ws, [w]] => some (u64B ws, insT a b c d e f g l ws w, [])
  | _ => none

theorem one_of {α : Type} {l : List α} (h : l.length = 1) : ∃ a, l = [a] := by
  match l, h with
  | [a], _ => exact ⟨a, rfl⟩

def S57 {Ω : Type} : Spec Ω := conSpec [.g cfgK, .s .u64, .i .i64] FIns
theorem g57 : Good1 Try.prog 57 S57 := conGood Try.func57 (by kernel_rfl) c57 e57 mix (A := A57) fun L r hr hl hF => by
  obtain ⟨x, q, rfl, hx, ws, q2, rfl, _, y, q3, rfl, hy, hq⟩ := hl
  simp only [lenAs] at hq
  subst hq
  obtain ⟨a, b, c, d, e, f, g, i, rfl⟩ := eight hx
  obtain ⟨w, rfl⟩ := one_of hy
  simp only [FIns, Option.some.injEq, Prod.mk.injEq] at hF
  obtain ⟨h0, rfl, rfl⟩ := hF
  obtain ⟨H, hH⟩ := v57 (a := a) (b := b) (c := c) (d := d) (e := e) (f := f) (g := g) (l := i) (w := w) h0
  exact ⟨⟨trivial, trivial, trivial⟩, trivial, H, trim_none rfl _, hH⟩
def S58 {Ω : Type} : Spec Ω := conSpec [.g cfgK, .s .u64, .i .i64] FIns
theorem g58 : Good1 Try.prog 58 S58 := conGood Try.func58 (by kernel_rfl) c58 e58 mix (A := A58) fun L r hr hl hF => by
  obtain ⟨x, q, rfl, hx, ws, q2, rfl, _, y, q3, rfl, hy, hq⟩ := hl
  simp only [lenAs] at hq
  subst hq
  obtain ⟨a, b, c, d, e, f, g, i, rfl⟩ := eight hx
  obtain ⟨w, rfl⟩ := one_of hy
  simp only [FIns, Option.some.injEq, Prod.mk.injEq] at hF
  obtain ⟨h0, rfl, rfl⟩ := hF
  obtain ⟨H, hH⟩ := v58 (a := a) (b := b) (c := c) (d := d) (e := e) (f := f) (g := g) (l := i) (w := w) h0
  exact ⟨⟨trivial, trivial, trivial⟩, trivial, H, trim_none rfl _, hH⟩
end Go.Sx.Pr
