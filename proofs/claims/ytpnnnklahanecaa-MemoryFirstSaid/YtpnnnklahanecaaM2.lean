/- Contract: the initial words, from the plan's layer. -/
import Derived.Test.YtpnnnklahanecaaM1
import Derived.Test.YtpnnnklahanecaaSxCon2
import Derived.Test.YtpnnnklahanecaaPA
namespace Go.Sx.Pr
open Go Go.Sx Go.Proofs
set_option maxRecDepth 100000
set_option linter.unusedVariables false

theorem br_t {α : Type} {x y : α} : br true x y = x := by first | exact _root_.id (Eq.refl _)
theorem br_f {α : Type} {x y : α} : br false x y = y := by first | exact _root_.id (Eq.refl _)
abbrev KS : SV → SH → Option (SV × SH) := fun r h => some (r, h)

abbrev S68s (xs : List Int) (i : Int) (a b c d e f g l : Int) : SS := ⟨[(1, .ptr 0 0), (3, .ptr 1 0), (5, .own 2), (23, I e), (24, I i)], [CFG a b c d e f g l, .cells 49 [I a, I b, I c, I d, I e, I f, I g, U l], .rowi 22 .u64 xs]⟩
theorem m68 {Ω : Type} (it : Itr Ω) (K : SV → SH → Option Ω) (a b c d e f g l : Int) :
    sxFnI it E68 A68 C68 [cfgS a b c d e f g l] [] K =
    br (!chk a b c d e f g l == 0) (br (!chk a b c d e f g l == 0) (K (.d (DV.v (Value.slice none 0 0))) [.cells 24 [I a, I b, I c, I d, I e, I f, I g, U l], .cells 49 [I 0, I 0, I 0, I 0, I 0, I 0, I 0, U 0]]) none) (br (decide (0 ≤ szZ a b c d e f g l) && fits (Int.toNat (szZ a b c d e f g l)) 8) (br (inB 0 (List.length (List.replicate (Int.toNat (szZ a b c d e f g l)) (0 : Int)))) (br (inB 2 (List.length (List.set (List.replicate (Int.toNat (szZ a b c d e f g l)) (0 : Int)) 0 2))) (it [1, 3, 5, 23, 24] 3 (sxI it E68 A68 L68_4 0) (SS.mk [(1, .ptr 0 0), (3, .ptr 1 0), (5, .own 2), (23, I e), (24, I 0)] [.cells 24 [I a, I b, I c, I d, I e, I f, I g, U l], .cells 49 [I a, I b, I c, I d, I e, I f, I g, U l], .rowi 22 .u64 (List.set (List.set (List.replicate (Int.toNat (szZ a b c d e f g l)) (0 : Int)) 0 2) 2 1)]) (Z68_4 it K)) none) none) none) := by kernel_rfl
theorem m68_1 {Ω : Type} (it : Itr Ω) (IT : SS → Option Ω) (K : SV → SH → Option Ω) (xs : List Int) (i : Int) (a b c d e f g l : Int) :
    sxI it E68 A68 L68_4 0 (S68s xs i a b c d e f g l) (kitV [1, 3, 5, 23, 24] 3 IT (Z68_4 it K)) =
    br (decide (i < e)) (br (decide (i < 0)) none (br (decide (i ≥ e)) none (br (!chk a b c d e f g l == 0) none (br (inB (IntKind.wrap .i64 (IntKind.wrap .i64 (IntKind.wrap .i64 (3 + a) + b) + IntKind.wrap .i64 (i * 2))) (List.length xs)) (br (decide (IntKind.wrap .i64 (i + 1) < e)) (br (decide (i < 0)) none (br (decide (i ≥ e)) none (br (!chk a b c d e f g l == 0) none (br (inB (IntKind.wrap .i64 (IntKind.wrap .i64 (IntKind.wrap .i64 (IntKind.wrap .i64 (3 + a) + b) + 1) + IntKind.wrap .i64 (i * 2))) (List.length (List.set xs (Int.toNat (IntKind.wrap .i64 (IntKind.wrap .i64 (IntKind.wrap .i64 (3 + a) + b) + IntKind.wrap .i64 (i * 2)))) 1048576))) (IT (SS.mk [(1, .ptr 0 0), (3, .ptr 1 0), (5, .own 2), (23, I e), (24, I (IntKind.wrap .i64 (i + 1)))] [.cells 24 [I a, I b, I c, I d, I e, I f, I g, U l], .cells 49 [I a, I b, I c, I d, I e, I f, I g, U l], .rowi 22 .u64 (List.set (List.set xs (Int.toNat (IntKind.wrap .i64 (IntKind.wrap .i64 (IntKind.wrap .i64 (3 + a) + b) + IntKind.wrap .i64 (i * 2)))) 1048576) (Int.toNat (IntKind.wrap .i64 (IntKind.wrap .i64 (IntKind.wrap .i64 (IntKind.wrap .i64 (3 + a) + b) + 1) + IntKind.wrap .i64 (i * 2)))) (IntKind.wrap .u64 (IntKind.wrap .i64 (i + 2))))])) none)))) (IT (SS.mk [(1, .ptr 0 0), (3, .ptr 1 0), (5, .own 2), (23, I e), (24, I (IntKind.wrap .i64 (i + 1)))] [.cells 24 [I a, I b, I c, I d, I e, I f, I g, U l], .cells 49 [I a, I b, I c, I d, I e, I f, I g, U l], .rowi 22 .u64 (List.set xs (Int.toNat (IntKind.wrap .i64 (IntKind.wrap .i64 (IntKind.wrap .i64 (3 + a) + b) + IntKind.wrap .i64 (i * 2)))) 1048576)]))) none)))) (K (.own 2) [.cells 24 [I a, I b, I c, I d, I e, I f, I g, U l], .cells 49 [I a, I b, I c, I d, I e, I f, I g, U l], .rowi 22 .u64 xs]) := by kernel_rfl

/-- The initial words, m entries done: bs is where the entries begin. -/
def fpart (bs E m i : Nat) : Int :=
  if i = 0 then 2 else if i = 2 then 1 else if bs ≤ i ∧ i < bs + 2 * m then (if (i - bs) % 2 = 0 then 1048576 else if (i - bs) / 2 + 1 < E then (((i - bs) / 2 + 2 : Nat) : Int) else 0) else 0

def fl (n bs E m : Nat) : List Int := (List.range n).map (fpart bs E m)

theorem fl_length {n bs E m : Nat} : (fl n bs E m).length = n := by simp [fl]

theorem fl_zero {n bs E : Nat} (hb : 3 ≤ bs) : ((List.replicate n (0 : Int)).set 0 2).set 2 1 = fl n bs E 0 := by
  refine List.ext_getElem (by simp [fl]) fun i h1 h2 => ?_
  simp only [fl, List.getElem_set, List.getElem_map, List.getElem_range, List.getElem_replicate, fpart]
  repeat' split
  all_goals first | rfl | omega

theorem fl_last {n bs E m : Nat} (hb : 3 ≤ bs) (hm : m < E) (hn : bs + 2 * E ≤ n) (hl : ¬ m + 1 < E) : (fl n bs E m).set (bs + 2 * m) 1048576 = fl n bs E (m + 1) := by
  refine List.ext_getElem (by simp [fl]) fun i h1 h2 => ?_
  simp only [fl, List.getElem_set, List.getElem_map, List.getElem_range, fpart]
  repeat' split
  all_goals first | rfl | omega

theorem fl_step {n bs E m : Nat} (hb : 3 ≤ bs) (hm : m < E) (hn : bs + 2 * E ≤ n) (hl : m + 1 < E) : ((fl n bs E m).set (bs + 2 * m) 1048576).set (bs + 1 + 2 * m) ((m + 2 : Nat) : Int) = fl n bs E (m + 1) := by
  refine List.ext_getElem (by simp [fl]) fun i h1 h2 => ?_
  simp only [fl, List.getElem_set, List.getElem_map, List.getElem_range, fpart]
  repeat' split
  all_goals first | rfl | omega

theorem v68 {a b c d e f g l : Int} (h : chk a b c d e f g l = 0) : sxFn E68 A68 C68 [cfgS a b c d e f g l] [] KS =
    some (.own 2, [CFG a b c d e f g l, .cells 49 [I a, I b, I c, I d, I e, I f, I g, U l], .rowi 22 .u64 (fl (sizeN a.toNat b.toNat c.toNat d.toNat e.toNat) (3 + a.toNat + b.toNat) e.toNat e.toNat)]) := by
  have hc' : (chk a b c d e f g l == 0) = true := by simp [h]
  obtain ⟨⟨a1, a2⟩, ⟨b1, b2⟩, ⟨c1, c2⟩, ⟨g1, g2⟩, ⟨e1, e2⟩, _⟩ := chk_zero h
  obtain ⟨A, rfl⟩ := Int.eq_ofNat_of_zero_le (show 0 ≤ a by omega)
  obtain ⟨Bn, rfl⟩ := Int.eq_ofNat_of_zero_le (show 0 ≤ b by omega)
  obtain ⟨Cn, rfl⟩ := Int.eq_ofNat_of_zero_le (show 0 ≤ c by omega)
  obtain ⟨Dn, rfl⟩ := Int.eq_ofNat_of_zero_le (show 0 ≤ d by omega)
  obtain ⟨En, rfl⟩ := Int.eq_ofNat_of_zero_le (show 0 ≤ e by omega)
  have hz : szZ A Bn Cn Dn En f g l = ((sizeN A Bn Cn Dn En : Nat) : Int) := by simp [szZ, h]
  have hBC : Bn * Cn ≤ 8 * 16 := Nat.mul_le_mul (by omega) (by omega)
  have hP : (1 + Dn) * (Bn * Cn) ≤ 5 * 128 := Nat.mul_le_mul (by omega) (by omega)
  have hn1 : 3 + A + Bn + 2 * En ≤ sizeN A Bn Cn Dn En := by unfold sizeN; omega
  have hn2 : sizeN A Bn Cn Dn En ≤ 1000 := by unfold sizeN; omega
  simp only [Int.toNat_natCast]
  generalize hN : sizeN A Bn Cn Dn En = N at *
  generalize hB : 3 + A + Bn = bs at *
  rw [← sxFnI_eq, m68, hc', hz]
  simp only [Bool.not_true, br_f, Int.toNat_natCast, List.length_replicate, List.length_set]
  have q1 : (decide (0 ≤ (N : Int)) && fits N 8) = true := by
    rw [fits_of (by omega)]; simp
  have q2 : inB 0 N = true := by simp [inB]; omega
  have q3 : inB 2 N = true := by simp [inB]; omega
  rw [q1, q2, q3, br_t, br_t, br_t, fl_zero (bs := bs) (E := En) (by omega)]
  have w1 : IntKind.wrap .i64 (3 + (A : Int)) = 3 + A := by rw [w64] <;> omega
  have w2 : IntKind.wrap .i64 (3 + (A : Int) + Bn) = ((bs : Nat) : Int) := by rw [w64] <;> omega
  have w3 : IntKind.wrap .i64 ((bs : Int) + 1) = ((bs + 1 : Nat) : Int) := by rw [w64] <;> omega
  obtain ⟨n, hn⟩ := loop_n (f := sxI itB E68 A68 L68_4 0) (lv := [1, 3, 5, 23, 24]) (n0 := 3) (k := Z68_4 itB KS) (fun i => S68s (fl N bs En i) (i : Int) A Bn Cn Dn En f g l) big En (by unfold big; omega) (fun i hi I => by
    have w4 : IntKind.wrap .i64 ((i : Int) * 2) = ((2 * i : Nat) : Int) := by rw [w64] <;> omega
    have w5 : IntKind.wrap .i64 ((bs : Int) + ((2 * i : Nat) : Int)) = ((bs + 2 * i : Nat) : Int) := by rw [w64] <;> omega
    have w6 : IntKind.wrap .i64 (((bs + 1 : Nat) : Int) + ((2 * i : Nat) : Int)) = ((bs + 1 + 2 * i : Nat) : Int) := by rw [w64] <;> omega
    have w7 : IntKind.wrap .i64 ((i : Int) + 1) = ((i + 1 : Nat) : Int) := by rw [w64] <;> omega
    have w8 : IntKind.wrap .u64 (IntKind.wrap .i64 ((i : Int) + 2)) = ((i + 2 : Nat) : Int) := by rw [w64 (by omega) (by omega), IntKind.wrap_u64]; omega
    have z1 : decide ((i : Int) < 0) = false := by simp
    have z2 : decide ((i : Int) ≥ (En : Int)) = false := by simp; omega
    rw [m68_1, decide_eq_true (by omega), w1, w2, w3, w4, w5, w6, w7, w8, z1, z2, hc']
    simp only [br_t, br_f, Bool.not_true, Int.toNat_natCast, List.length_set, fl_length]
    have z3 : inB ((bs + 2 * i : Nat) : Int) N = true := by simp [inB]; omega
    rw [z3, br_t]
    by_cases hl : i + 1 < En
    · have z4 : decide (((i + 1 : Nat) : Int) < (En : Int)) = true := by simp; omega
      have z5 : inB ((bs + 1 + 2 * i : Nat) : Int) N = true := by simp [inB]; omega
      rw [z4, br_t, z5, br_t, fl_step (by omega) hi hn1 hl]
    · have z4 : decide (((i + 1 : Nat) : Int) < (En : Int)) = false := by simp; omega
      rw [z4, br_f, fl_last (by omega) hi hn1 hl])
  rw [itB_def]
  refine Eq.trans hn ?_
  rw [m68_1, decide_eq_false (by omega), br_f]

def FFirst : List (List Int) → List (Bool × SV × SH)
  | [[a, b, c, d, e, f, g, l]] => [(!(chk a b c d e f g l == 0), .d (.v (.slice none 0 0)), []), (true, .own 2, [.dead, .dead, .rowi 22 .u64 (fl (sizeN a.toNat b.toNat c.toNat d.toNat e.toNat) (3 + a.toNat + b.toNat) e.toNat e.toNat)])]
  | _ => []

theorem v68' {a b c d e f g l : Int} (h : ¬ chk a b c d e f g l = 0) : ∃ H, sxFn E68 A68 C68 [cfgS a b c d e f g l] [] KS = some (.d (.v (.slice none 0 0)), H) := by
  have hc' : (chk a b c d e f g l == 0) = false := by simp [h]
  rw [← sxFnI_eq, m68, hc']
  simp only [Bool.not_false, br_t]
  exact ⟨_, rfl⟩

def S68 {Ω : Type} : Spec Ω := conSpecL [.g cfgK] FFirst
theorem g68 : Good1 Try.prog 68 S68 := conGoodL Try.func68 (by kernel_rfl) c68 e68 mix (A := A68) fun L r hr hl hF => by
  obtain ⟨x, rfl, hx⟩ := lenAs_one hl
  obtain ⟨a, b, c, d, e, f, g, i, rfl⟩ := eight hx
  simp only [FFirst, firstAlt] at hF
  by_cases h : chk a b c d e f g i = 0
  · have hc' : (chk a b c d e f g i == 0) = true := by simp [h]
    rw [hc'] at hF
    simp only [Bool.not_true, cond_false, cond_true, Option.some.injEq, Prod.mk.injEq] at hF
    obtain ⟨rfl, rfl⟩ := hF
    exact ⟨trivial, ⟨trivial, trivial, trivial, trivial⟩, _, _, RowEq.refl _, by kernel_rfl, v68 h⟩
  · have hc' : (chk a b c d e f g i == 0) = false := by simp [h]
    rw [hc'] at hF
    simp only [Bool.not_false, cond_true, Option.some.injEq, Prod.mk.injEq] at hF
    obtain ⟨rfl, rfl⟩ := hF
    obtain ⟨H, hH⟩ := v68' h
    exact ⟨trivial, trivial, _, H, RowEq.refl _, trim_none rfl _, hH⟩
end Go.Sx.Pr
