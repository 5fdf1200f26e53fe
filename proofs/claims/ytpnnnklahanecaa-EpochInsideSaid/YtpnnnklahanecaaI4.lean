/- Contract: Least of the epoch's layer. -/
import Derived.Test.YtpnnnklahanecaaI3
namespace Go.Sx.Pr
open Go Go.Sx Go.Proofs
set_option maxRecDepth 100000
set_option linter.unusedVariables false

abbrev S59s (x : Int) (s : Bool) (m i : Int) (a b c d e f g l : Int) (ws : List Int) : SS := ⟨[(1, .d (.ints .u64 ws)), (2, .ptr 0 0), (6, U x), (7, B s), (14, I m), (15, I i)], [CFG a b c d e f g l]⟩
theorem n59 {Ω : Type} (it : Itr Ω) (K : SV → SH → Option Ω) (a b c d e f g l : Int) (ws : List Int) :
    sxFnI it E59 A59 C59 [cfgS a b c d e f g l, .d (.ints .u64 ws)] [] K =
    it [1, 2, 6, 7, 14, 15] 1 (sxI it E59 A59 L59_6 0) (SS.mk [(1, .d (DV.ints .u64 ws)), (2, .ptr 0 0), (6, U 0), (7, B false), (14, I (if 8 < if 0 > a then 0 else a then 8 else if 0 > a then 0 else a)), (15, I 0)] [.cells 24 [I a, I b, I c, I d, I e, I f, I g, U l]]) (Z59_6 it K) := by kernel_rfl
theorem n59_1 {Ω : Type} (it : Itr Ω) (IT : SS → Option Ω) (K : SV → SH → Option Ω) (x : Int) (s : Bool) (m i : Int) (a b c d e f g l : Int) (ws : List Int) :
    sxI it E59 A59 L59_6 0 (S59s x s m i a b c d e f g l ws) (kitV [1, 2, 6, 7, 14, 15] 1 IT (Z59_6 it K)) =
    br (decide (i < m)) (br (u64B ws) (br (Prod.snd (insV a b c d e f g l ws i)) (br (!s) (IT (SS.mk [(1, .d (DV.ints .u64 ws)), (2, .ptr 0 0), (6, U (Prod.fst (insV a b c d e f g l ws i))), (7, B true), (14, I m), (15, I (IntKind.wrap .i64 (i + 1)))] [.cells 24 [I a, I b, I c, I d, I e, I f, I g, U l]])) (br (decide (Prod.fst (insV a b c d e f g l ws i) < x)) (IT (SS.mk [(1, .d (DV.ints .u64 ws)), (2, .ptr 0 0), (6, U (Prod.fst (insV a b c d e f g l ws i))), (7, B true), (14, I m), (15, I (IntKind.wrap .i64 (i + 1)))] [.cells 24 [I a, I b, I c, I d, I e, I f, I g, U l]])) (IT (SS.mk [(1, .d (DV.ints .u64 ws)), (2, .ptr 0 0), (6, U x), (7, B s), (14, I m), (15, I (IntKind.wrap .i64 (i + 1)))] [.cells 24 [I a, I b, I c, I d, I e, I f, I g, U l]])))) (IT (SS.mk [(1, .d (DV.ints .u64 ws)), (2, .ptr 0 0), (6, U x), (7, B s), (14, I m), (15, I (IntKind.wrap .i64 (i + 1)))] [.cells 24 [I a, I b, I c, I d, I e, I f, I g, U l]]))) none) (K (.tup [U x, B s]) [.cells 24 [I a, I b, I c, I d, I e, I f, I g, U l]]) := by kernel_rfl

/-- The least epoch among the first n workers. -/
def lstV (a b c d e f g l : Int) (ws : List Int) : Nat → Int × Bool
  | 0 => (0, false)
  | i + 1 => bif (insV a b c d e f g l ws i).2 && (!(lstV a b c d e f g l ws i).2 || decide ((insV a b c d e f g l ws i).1 < (lstV a b c d e f g l ws i).1)) then ((insV a b c d e f g l ws i).1, true) else lstV a b c d e f g l ws i

def lim (a : Int) : Nat := min a.toNat 8

theorem lim_eq (a : Int) : (if 8 < (if 0 > a then 0 else a) then 8 else if 0 > a then 0 else a : Int) = ((lim a : Nat) : Int) := by
  unfold lim
  split <;> split at * <;> omega

abbrev lstT (a b c d e f g l : Int) (ws : List Int) (n : Nat) : SV := .tup [U (lstV a b c d e f g l ws n).1, B (lstV a b c d e f g l ws n).2]

theorem v59 {a b c d e f g l : Int} {ws : List Int} (hw : u64B ws = true) : Gives (sxFn E59 A59 C59 [cfgS a b c d e f g l, .d (.ints .u64 ws)] [] KS) (lstT a b c d e f g l ws (lim a)) := by
  rw [← sxFnI_eq, n59, lim_eq]
  have hm : lim a ≤ 8 := Nat.min_le_right _ _
  generalize lim a = M at hm ⊢
  obtain ⟨n, hn⟩ := loop_n (f := sxI itB E59 A59 L59_6 0) (lv := [1, 2, 6, 7, 14, 15]) (n0 := 1) (k := Z59_6 itB KS) (fun i => S59s (lstV a b c d e f g l ws i).1 (lstV a b c d e f g l ws i).2 M (i : Int) a b c d e f g l ws) big M (by unfold big; omega) (fun i hi I => by
    rw [n59_1, decide_eq_true (by omega), hw, w64 (by omega) (by omega)]
    simp only [br_t, lstV]
    cases h1 : (insV a b c d e f g l ws i).2 with
    | false => simp only [br_f, Bool.false_and, cond_false]; rfl
    | true =>
      simp only [br_t, Bool.true_and]
      cases h2 : (lstV a b c d e f g l ws i).2 with
      | false => simp only [Bool.not_false, br_t, Bool.true_or, cond_true]; rfl
      | true =>
        simp only [Bool.not_true, br_f, Bool.false_or]
        cases h3 : decide ((insV a b c d e f g l ws i).1 < (lstV a b c d e f g l ws i).1) with
        | true => simp only [br_t, cond_true]; rfl
        | false => simp only [br_f, cond_false, h2]; rfl)
  rw [itB_def]
  unfold Gives
  refine ⟨[CFG a b c d e f g l], ?_⟩
  refine Eq.trans hn ?_
  rw [n59_1, decide_eq_false (by omega), br_f]

def FLst : List (List Int) → Option (Bool × SV × SH)
  | [[a, b, c, d, e, f, g, l], ws] => some (u64B ws, lstT a b c d e f g l ws (lim a), [])
  | _ => none
def S59 {Ω : Type} : Spec Ω := conSpec [.g cfgK, .s .u64] FLst
theorem g59 : Good1 Try.prog 59 S59 := conGood Try.func59 (by kernel_rfl) c59 e59 mix (A := A59) fun L r hr hl hF => by
  obtain ⟨x, q, rfl, hx, ws, q2, rfl, _, hq⟩ := hl
  simp only [lenAs] at hq
  subst hq
  obtain ⟨a, b, c, d, e, f, g, i, rfl⟩ := eight hx
  simp only [FLst, Option.some.injEq, Prod.mk.injEq] at hF
  obtain ⟨h0, rfl, rfl⟩ := hF
  obtain ⟨H, hH⟩ := v59 (a := a) (b := b) (c := c) (d := d) (e := e) (f := f) (g := g) (l := i) h0
  exact ⟨⟨trivial, trivial, trivial⟩, trivial, H, trim_none rfl _, hH⟩
end Go.Sx.Pr
