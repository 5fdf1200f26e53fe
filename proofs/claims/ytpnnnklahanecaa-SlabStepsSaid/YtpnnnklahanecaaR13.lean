/- Pieces of the code of functions, compiled for the symbolic interpreter, each checked against the program; no conditions. -/
import Derived.Test.YtpnnnklahanecaaR11
import Derived.Test.YtpnnnklahanecaaRows
import Derived.KernelRfl
set_option linter.unusedVariables false
namespace Go.Sx.Pr
open Go Go.Sx Go.Proofs
set_option maxRecDepth 100000
def K98_1 : CC := .seq (.seq (.reg false [⟨some 9, .mv (.t 0), none, 0⟩,
   ⟨some 10, .call (.c (.fn (.func 94) [] [])) [.t 9], none, 0⟩,
   ⟨some 8, .mv (.t 10), none, 0⟩,
   ⟨some 11, .ext 0 (.t 8), none, 0⟩,
   ⟨some 12, .ext 1 (.t 8), none, 0⟩,
   ⟨some 13, .ext 2 (.t 8), none, 0⟩,
   ⟨some 5, .mv (.t 11), none, 0⟩,
   ⟨some 6, .mv (.t 12), none, 0⟩,
   ⟨some 7, .mv (.t 13), none, 0⟩])
 (.seq (.reg false [⟨some 14, .mv (.t 5), none, 0⟩])
 (.block 0 (.seq (.reg false [⟨some 16, .eq .int false (.t 14) (.c (.d (.v (.int .i64 0)))), none, 0⟩,
     ⟨some 15, .mv (.t 16), none, 0⟩])
   (.cond 15 (.seq (.reg false [⟨some 4, .mv (.c (.d (.v (.bool true)))), none, 0⟩])
     (.ret))
     (.seq (.reg false [⟨some 18, .eq .int false (.t 14) (.c (.d (.v (.int .i64 3)))), none, 0⟩,
       ⟨some 17, .mv (.t 18), none, 0⟩])
     (.cond 17 (.seq (.reg false [⟨some 19, .mv (.t 1), none, 0⟩,
         ⟨some 20, .bin .geq (.t 19) (.c (.d (.v (.int .u64 2)))), none, 0⟩,
         ⟨some 21, .mv (.t 20), none, 0⟩,
         ⟨some 22, .mv (.t 7), some (21, true), 0⟩,
         ⟨some 23, .mv (.t 1), some (21, true), 0⟩,
         ⟨some 24, .bin .sub (.t 23) (.c (.d (.v (.int .u64 2)))), some (21, true), 0⟩,
         ⟨some 25, .bin .leq (.t 22) (.t 24), some (21, true), 0⟩,
         ⟨some 26, .pick (.t 21) (.t 25) (.c (.d (.v (.bool false)))), none, 0⟩,
         ⟨some 4, .mv (.t 26), none, 0⟩])
       (.ret))
       (.skip))))))))
 (.seq (.reg false [⟨some 4, .mv (.c (.d (.v (.bool false)))), none, 0⟩])
 (.ret))
def K98_2 : CC := .reg false [⟨some 4, .mv (.c (.d (.v (.bool false)))), none, 0⟩]
/-- coatcheck/slab.Ready -/
def C98 : CF := ⟨2, [(4, none)],
 .seq K98_2 K98_1⟩
theorem c98 : coF Try.prog Try.f98 = some C98 := by kernel_rfl
def A98 : Ann := { keep := [0, 1, 4, 5, 7, 14, 15, 17], live := [] }
def E98 {Ω : Type} : Env Ω := econs 94 S94c (enil)
theorem e98 : GoodE Try.prog E98 := GoodE.cons g94c (GoodE.nil)
def K105_1 : CC := .seq (.reg false [⟨some 9, .mv (.t 0), none, 0⟩,
   ⟨some 10, .call (.c (.fn (.func 101) [] [])) [.t 9], none, 0⟩,
   ⟨some 8, .mv (.t 10), none, 0⟩,
   ⟨some 11, .ext 0 (.t 8), none, 0⟩,
   ⟨some 12, .ext 1 (.t 8), none, 0⟩,
   ⟨some 13, .ext 2 (.t 8), none, 0⟩,
   ⟨some 5, .mv (.t 11), none, 0⟩,
   ⟨some 6, .mv (.t 12), none, 0⟩,
   ⟨some 7, .mv (.t 13), none, 0⟩])
 (.seq (.seq (.reg false [⟨some 14, .mv (.t 5), none, 0⟩,
   ⟨some 15, .eq .int false (.t 14) (.c (.d (.v (.int .i64 0)))), none, 0⟩])
 (.cond 15 (.seq (.reg false [⟨some 4, .mv (.c (.d (.v (.bool true)))), none, 0⟩])
   (.ret))
   (.skip)))
 (.seq (.reg false [⟨some 16, .mv (.t 5), none, 0⟩,
   ⟨some 17, .eq .int false (.t 16) (.c (.d (.v (.int .i64 3)))), none, 0⟩,
   ⟨some 18, .mv (.t 17), none, 0⟩,
   ⟨some 19, .mv (.t 1), some (18, true), 0⟩,
   ⟨some 20, .bin .gtr (.t 19) (.c (.d (.v (.int .u64 1)))), some (18, true), 0⟩,
   ⟨some 21, .pick (.t 18) (.t 20) (.c (.d (.v (.bool false)))), none, 0⟩,
   ⟨some 22, .mv (.t 21), none, 0⟩,
   ⟨some 23, .mv (.t 1), some (22, true), 0⟩,
   ⟨some 24, .bin .sub (.t 23) (.c (.d (.v (.int .u64 2)))), some (22, true), 0⟩,
   ⟨some 25, .mv (.t 7), some (22, true), 0⟩,
   ⟨some 26, .bin .geq (.t 24) (.t 25), some (22, true), 0⟩,
   ⟨some 27, .pick (.t 22) (.t 26) (.c (.d (.v (.bool false)))), none, 0⟩,
   ⟨some 4, .mv (.t 27), none, 0⟩])
 (.ret)))
def K105_2 : CC := .reg false [⟨some 4, .mv (.c (.d (.v (.bool false)))), none, 0⟩]
/-- coatcheck/coatcheckref08.Ready -/
def C105 : CF := ⟨2, [(4, none)],
 .seq K105_2 K105_1⟩
theorem c105 : coF Try.prog Try.f105 = some C105 := by kernel_rfl
def A105 : Ann := { keep := [0, 1, 4, 5, 7, 15], live := [] }
def E105 {Ω : Type} : Env Ω := econs 101 S101c (enil)
theorem e105 : GoodE Try.prog E105 := GoodE.cons g101c (GoodE.nil)
/-- (coatcheck/plan.Plan).Home -/
def C96 : CF := ⟨2, [(4, none)],
 .seq (.reg false [⟨some 2, .box 49 8 (.t 0), none, 0⟩,
   ⟨some 4, .mv (.c (.d (.v (.int .i64 0)))), none, 0⟩])
 (.seq (.seq (.reg false [⟨some 5, .ld 8 true (.t 2), none, 0⟩,
   ⟨some 6, .mv (.t 1), none, 0⟩,
   ⟨some 7, .call (.c (.fn (.func 117) [] [])) [.t 5, .t 6], none, 0⟩,
   ⟨some 8, .bin .lss (.t 7) (.c (.d (.v (.int .i64 0)))), none, 0⟩])
 (.cond 8 (.seq (.reg false [⟨some 4, .mv (.c (.d (.v (.int .i64 (-1))))), none, 0⟩])
   (.ret))
   (.skip)))
 (.seq (.reg false [⟨some 9, .mv (.t 1), none, 0⟩,
   ⟨some 10, .fa 0 (.t 2), none, 0⟩,
   ⟨some 11, .fa 2 (.t 10), none, 0⟩,
   ⟨some 12, .ld 1 false (.t 11), none, 0⟩,
   ⟨some 13, .bin .quo (.t 9) (.t 12), none, 0⟩,
   ⟨some 4, .mv (.t 13), none, 0⟩])
 (.ret)))⟩
theorem c96 : coF Try.prog Try.f96 = some C96 := by kernel_rfl
def A96 : Ann := { keep := [0, 1, 2, 4, 8], live := [] }
def E96 {Ω : Type} : Env Ω := econs 117 S117 (enil)
theorem e96 : GoodE Try.prog E96 := GoodE.cons g117 (GoodE.nil)
def K126_1 : CC := .seq (.reg false [⟨some 4, .mv (.c (.d (.v (.int .i64 (-1))))), none, 0⟩])
 (.ret)
def L126_2 : CC := .seq (.seq (.reg false [⟨some 13, .mv (.t 5), none, 0⟩,
   ⟨some 14, .fa 1 (.t 2), none, 0⟩,
   ⟨some 15, .ld 1 false (.t 14), none, 0⟩,
   ⟨some 16, .bin .lss (.t 13) (.t 15), none, 0⟩])
 (.cond 16 (.skip)
   (.exit 0)))
 (.seq (.block 1 (.seq (.reg false [⟨some 19, .mv (.t 1), none, 0⟩,
     ⟨some 20, .mv (.t 5), none, 0⟩,
     ⟨some 21, .bin .add (.t 20) (.c (.d (.v (.int .i64 1)))), none, 0⟩,
     ⟨some 22, .fa 2 (.t 2), none, 0⟩,
     ⟨some 23, .ld 1 false (.t 22), none, 0⟩,
     ⟨some 24, .bin .mul (.t 21) (.t 23), none, 0⟩,
     ⟨some 25, .bin .lss (.t 19) (.t 24), none, 0⟩])
   (.cond 25 (.seq (.reg false [⟨some 26, .mv (.t 5), none, 0⟩,
       ⟨some 4, .mv (.t 26), none, 0⟩])
     (.ret))
     (.skip))))
 (.reg false [⟨some 17, .mv (.t 5), none, 0⟩,
   ⟨some 18, .bin .add (.t 17) (.c (.d (.v (.int .i64 1)))), none, 0⟩,
   ⟨some 5, .mv (.t 18), none, 0⟩]))
def K126_3 : CC := .reg false [⟨some 5, .mv (.c (.d (.v (.int .i64 0)))), none, 0⟩]
def K126_4 : CC := .seq (.reg false [⟨some 6, .ld 8 true (.t 2), none, 0⟩,
   ⟨some 7, .call (.c (.fn (.func 19) [] [])) [.t 6], none, 0⟩,
   ⟨some 8, .eq .int true (.t 7) (.c (.d (.v (.int .i64 0)))), none, 0⟩,
   ⟨some 9, .mv (.t 8), none, 0⟩,
   ⟨some 10, .mv (.t 1), some (9, false), 0⟩,
   ⟨some 11, .bin .lss (.t 10) (.c (.d (.v (.int .i64 0)))), some (9, false), 0⟩,
   ⟨some 12, .pick (.t 9) (.c (.d (.v (.bool true)))) (.t 11), none, 0⟩])
 (.cond 12 (.seq (.reg false [⟨some 4, .mv (.c (.d (.v (.int .i64 (-1))))), none, 0⟩])
   (.ret))
   (.skip))
def K126_5 : CC := .reg false [⟨some 2, .box 24 8 (.t 0), none, 0⟩,
   ⟨some 4, .mv (.c (.d (.v (.int .i64 0)))), none, 0⟩]
/-- coatcheck/coatcheckref02.Home -/
def C126 : CF := ⟨2, [(4, none)],
 .seq K126_5 (.seq K126_4 (.seq (.seq K126_3 (.block 0 (.loop L126_2))) K126_1))⟩
theorem c126 : coF Try.prog Try.f126 = some C126 := by kernel_rfl
def A126 : Ann := { keep := [0, 1, 2, 4, 5, 12, 16, 25], live := [(0, [1, 2, 5])] }
def E126 {Ω : Type} : Env Ω := econs 19 S19 (enil)
theorem e126 : GoodE Try.prog E126 := GoodE.cons g19 (GoodE.nil)
def Z126_2 {Ω : Type} (it : Itr Ω) (K : SV → SH → Option Ω) : SE → SS → Option Ω := kblk 0 (kseq it E126 A126 K126_1 0 (kfn C126 K))
end Go.Sx.Pr

/- Ready and Home of both layers: what they answer. -/
namespace Go.Sx.Pr
open Go Go.Sx Go.Sx.Md Go.Proofs
set_option maxRecDepth 100000
theorem n98 {Ω : Type} (K : SV → SH → Option Ω) (w e : Int) :
    sxFn E98 A98 C98 [U w, U e] [] K =
    br (uB w) (br (w % 16 == 0) (K (B true) []) (br (w % 16 == 3) (br (decide (e ≥ 2)) (K (B (decide (w / 65536 ≤ IntKind.wrap .u64 (e - 2)))) []) (K (B false) [])) (K (B false) []))) none := by kernel_rfl
theorem n105 {Ω : Type} (K : SV → SH → Option Ω) (w e : Int) :
    sxFn E105 A105 C105 [U w, U e] [] K =
    br (uB w) (br (w % 16 == 0) (K (B true) []) (br (w % 16 == 3) (br (decide (e > 1)) (K (B (decide (IntKind.wrap .u64 (e - 2) ≥ w / 65536))) []) (K (B false) [])) (K (B false) []))) none := by kernel_rfl
theorem n96 {Ω : Type} (K : SV → SH → Option Ω) (a b c d e f g l x : Int) :
    sxFn E96 A96 C96 [cfgS a b c d e f g l, I x] [] K =
    br (decide (atV a b c d e f g l 5 x 0 < 0)) (K (I (-1)) (H49 a b c d e f g l)) (br (c == 0) none (K (I (IntKind.wrap .i64 (Int.tdiv x c))) (H49 a b c d e f g l))) := by kernel_rfl

theorem n126 {Ω : Type} (it : Itr Ω) (K : SV → SH → Option Ω) (a b c d e f g l x : Int) :
    sxFnI it E126 A126 C126 [cfgS a b c d e f g l, I x] [] K =
    br (!chk a b c d e f g l == 0) (K (I (-1)) [CFG a b c d e f g l]) (br (decide (x < 0)) (K (I (-1)) [CFG a b c d e f g l]) (it [1, 2, 5] 1 (sxI it E126 A126 L126_2 0) (SS.mk [(1, I x), (2, .ptr 0 0), (5, I 0)] [CFG a b c d e f g l]) (Z126_2 it K))) := by kernel_rfl
theorem n126_1 {Ω : Type} (it : Itr Ω) (IT : SS → Option Ω) (K : SV → SH → Option Ω) (a b c d e f g l x j : Int) :
    sxI it E126 A126 L126_2 0 ⟨[(1, I x), (2, .ptr 0 0), (5, I j)], [CFG a b c d e f g l]⟩ (kitV [1, 2, 5] 1 IT (Z126_2 it K)) =
    br (decide (j < b)) (br (decide (x < IntKind.wrap .i64 (IntKind.wrap .i64 (j + 1) * c))) (K (I j) [CFG a b c d e f g l]) (IT (SS.mk [(1, I x), (2, .ptr 0 0), (5, I (IntKind.wrap .i64 (j + 1)))] [CFG a b c d e f g l]))) (K (I (-1)) [CFG a b c d e f g l]) := by kernel_rfl


def FReady : List (List Int) → Option (Bool × SV × SH)
  | [[w], [e]] => some (uB w && uB e, B (readyV w e), [])
  | _ => none
theorem v98 {w e : Int} (hw : uB w = true) (he : uB e = true) : sxFn E98 A98 C98 [U w, U e] [] KS = some (B (readyV w e), []) := by
  have he' := uB_iff.1 he
  rw [n98, hw, br_t]
  unfold readyV
  cases h1 : (w % 16 == 0) with
  | true => rw [br_t]; rfl
  | false =>
    rw [br_f]
    cases h2 : (w % 16 == 3) with
    | false => rw [br_f]; rfl
    | true =>
      rw [br_t]
      by_cases h3 : 2 ≤ e
      · rw [decide_eq_true (show e ≥ 2 from h3), br_t]
        rw [show IntKind.wrap .u64 (e - 2) = e - 2 by rw [IntKind.wrap_u64]; omega]
        simp only [Bool.true_and, Bool.false_or]
      · rw [decide_eq_false (show ¬ e ≥ 2 from h3), br_f]
        rfl
theorem v105 {w e : Int} (hw : uB w = true) (he : uB e = true) : sxFn E105 A105 C105 [U w, U e] [] KS = some (B (readyV w e), []) := by
  have he' := uB_iff.1 he
  rw [n105, hw, br_t]
  unfold readyV
  cases h1 : (w % 16 == 0) with
  | true => rw [br_t]; rfl
  | false =>
    rw [br_f]
    cases h2 : (w % 16 == 3) with
    | false => rw [br_f]; rfl
    | true =>
      rw [br_t]
      by_cases h3 : 2 ≤ e
      · rw [decide_eq_true (show e > 1 by omega), br_t, decide_eq_true h3]
        rw [show IntKind.wrap .u64 (e - 2) = e - 2 by rw [IntKind.wrap_u64]; omega]
        simp only [Bool.true_and, Bool.false_or, ge_iff_le]
      · rw [decide_eq_false (show ¬ e > 1 by omega), br_f, decide_eq_false h3]
        rfl
def S98c {Ω : Type} : Spec Ω := conSpec [.i .u64, .i .u64] FReady
theorem g98c : Good1 Try.prog 98 S98c := conGood Try.func98 (by kernel_rfl) c98 e98 mix (A := A98) fun L r hr hl hF => by
  obtain ⟨q0, l0, rfl, z0, hl1⟩ := lenAs_cons hl
  obtain ⟨w, rfl⟩ := one_of' z0
  obtain ⟨q1, l1, rfl, z1, hl2⟩ := lenAs_cons hl1
  obtain ⟨e, rfl⟩ := one_of' z1
  have hz := lenAs_nil hl2
  subst hz
  simp only [FReady, Option.some.injEq, Prod.mk.injEq, Bool.and_eq_true] at hF
  obtain ⟨⟨hw, he⟩, rfl, rfl⟩ := hF
  exact ⟨trivial, trivial, [], trim_none rfl _, v98 hw he⟩
def S105c {Ω : Type} : Spec Ω := conSpec [.i .u64, .i .u64] FReady
theorem g105c : Good1 Try.prog 105 S105c := conGood Try.func105 (by kernel_rfl) c105 e105 mix (A := A105) fun L r hr hl hF => by
  obtain ⟨q0, l0, rfl, z0, hl1⟩ := lenAs_cons hl
  obtain ⟨w, rfl⟩ := one_of' z0
  obtain ⟨q1, l1, rfl, z1, hl2⟩ := lenAs_cons hl1
  obtain ⟨e, rfl⟩ := one_of' z1
  have hz := lenAs_nil hl2
  subst hz
  simp only [FReady, Option.some.injEq, Prod.mk.injEq, Bool.and_eq_true] at hF
  obtain ⟨⟨hw, he⟩, rfl, rfl⟩ := hF
  exact ⟨trivial, trivial, [], trim_none rfl _, v105 hw he⟩

section
variable (a b c d e f g l x : Int)
theorem x96 : sxFn E96 A96 C96 [cfgS a b c d e f g l, I x] [] KS = some (I (homeV ⟨a, b, c, d, e, f, g, l⟩ x), H49 a b c d e f g l) := by
  rw [n96]
  unfold homeV chkC
  by_cases hc : chk a b c d e f g l = 0
  · obtain ⟨⟨a1, a2⟩, ⟨b1, b2⟩, ⟨c1, c2⟩, ⟨d1, d2⟩, ⟨e1, e2⟩, _⟩ := chk_zero hc
    rw [at5 hc]
    simp only [hc, beq_self_eq_true, Bool.true_and]
    by_cases h : 0 ≤ x ∧ x < b * c
    · have hp : 0 ≤ (1 + d) * x := Int.mul_nonneg (by omega) h.1
      rw [if_pos h, decide_eq_false (by omega), br_f, show (c == 0) = false by simp; omega, br_f, decide_eq_true h.1, decide_eq_true h.2, Bool.true_and, cond_true]
      have hd : Int.tdiv x c = x / c := Int.tdiv_eq_ediv_of_nonneg h.1
      have h0 : 0 ≤ x / c := Int.ediv_nonneg h.1 (by omega)
      have h1 : x / c < b := Int.ediv_lt_of_lt_mul (by omega) h.2
      rw [hd, w64 (by omega) (by omega)]
    · rw [if_neg h, decide_eq_true (by omega), br_t]
      have : (decide (0 ≤ x) && decide (x < b * c)) = false := by
        rw [Bool.and_eq_false_iff, decide_eq_false_iff_not, decide_eq_false_iff_not]
        by_cases h1 : 0 ≤ x
        · exact .inr fun h2 => h ⟨h1, h2⟩
        · exact .inl h1
      rw [this, cond_false]
  · rw [atV_bad hc, decide_eq_true (by omega), br_t]
    have : (chk a b c d e f g l == 0) = false := by simp [hc]
    simp only [this, Bool.false_and, cond_false]

theorem home_loop (hc : chk a b c d e f g l = 0) (hx : 0 ≤ x) : ∀ (m j N : Nat), (j : Int) + m = b → (j : Int) * c ≤ x → m < N →
    iter [1, 2, 5] 1 (sxI itB E126 A126 L126_2 0) N ⟨[(1, I x), (2, .ptr 0 0), (5, I (j : Int))], [CFG a b c d e f g l]⟩ (Z126_2 itB KS) = some (I (bif decide (x < b * c) then x / c else -1), [CFG a b c d e f g l]) := by
  obtain ⟨⟨a1, a2⟩, ⟨b1, b2⟩, ⟨c1, c2⟩, _⟩ := chk_zero hc
  intro m
  induction m with
  | zero =>
    intro j N hj hle hN
    obtain ⟨N, rfl⟩ : ∃ k, N = k + 1 := ⟨N - 1, by omega⟩
    have hjb : (j : Int) = b := by omega
    rw [iter_succ, n126_1, decide_eq_false (by omega), br_f, decide_eq_false (show ¬ x < b * c by rw [← hjb]; omega), cond_false]
  | succ m ih =>
    intro j N hj hle hN
    obtain ⟨N, rfl⟩ : ∃ k, N = k + 1 := ⟨N - 1, by omega⟩
    have hjb : (j : Int) + 1 ≤ b := by omega
    have hm1 : ((j : Int) + 1) * c ≤ b * c := Int.mul_le_mul_of_nonneg_right hjb (by omega)
    have hm2 : b * c ≤ 8 * 16 := Int.le_trans (Int.mul_le_mul_of_nonneg_right b2 (by omega)) (Int.mul_le_mul_of_nonneg_left c2 (by omega))
    have hm0 : 0 ≤ ((j : Int) + 1) * c := Int.mul_nonneg (by omega) (by omega)
    rw [iter_succ, n126_1, decide_eq_true (by omega), br_t, w64 (x := (j : Int) + 1) (by omega) (by omega), w64 (x := ((j : Int) + 1) * c) (by omega) (by omega)]
    by_cases h : x < ((j : Int) + 1) * c
    · rw [decide_eq_true h, br_t, decide_eq_true (show x < b * c by omega), cond_true]
      have : x / c = j := by
        have e1 : (j : Int) ≤ x / c := Int.le_ediv_of_mul_le (by omega) hle
        have e2 : x / c < (j : Int) + 1 := Int.ediv_lt_of_lt_mul (by omega) h
        omega
      rw [this]
    · rw [decide_eq_false h, br_f]
      have := ih (j + 1) N (by push_cast; omega) (by push_cast; omega) (by omega)
      rw [show ((j + 1 : Nat) : Int) = (j : Int) + 1 by push_cast; rfl] at this
      exact this

theorem x126 : sxFn E126 A126 C126 [cfgS a b c d e f g l, I x] [] KS = some (I (homeV ⟨a, b, c, d, e, f, g, l⟩ x), [CFG a b c d e f g l]) := by
  rw [← sxFnI_eq, n126]
  unfold homeV chkC
  by_cases hc : chk a b c d e f g l = 0
  · have hc' : (chk a b c d e f g l == 0) = true := by simp [hc]
    simp only [hc', Bool.not_true, br_f, Bool.true_and]
    by_cases h : x < 0
    · rw [decide_eq_true h, br_t, decide_eq_false (show ¬ 0 ≤ x by omega), Bool.false_and, cond_false]
    · rw [decide_eq_false h, br_f, decide_eq_true (show 0 ≤ x by omega), Bool.true_and, itB_def]
      obtain ⟨⟨a1, a2⟩, ⟨b1, b2⟩, ⟨c1, c2⟩, _⟩ := chk_zero hc
      exact home_loop a b c d e f g l x hc (by omega) b.toNat 0 big (by omega) (by simp; omega) (by unfold big; omega)
  · have hc' : (chk a b c d e f g l == 0) = false := by simp [hc]
    simp only [hc', Bool.not_false, br_t, Bool.false_and, cond_false]
end
def FHome : List (List Int) → Option (Bool × SV × SH)
  | [[a, b, c, d, e, f, g, l], [i]] => some (true, I (homeV ⟨a, b, c, d, e, f, g, l⟩ i), [])
  | _ => none
def S96c {Ω : Type} : Spec Ω := conSpec [.g cfgK, .i .i64] FHome
theorem g96c : Good1 Try.prog 96 S96c := conGood Try.func96 (by kernel_rfl) c96 e96 mix (A := A96) fun L r hr hl hF => by
  obtain ⟨p, q, rfl, hp, s, q2, rfl, hs, hq⟩ := hl
  simp only [lenAs] at hq
  subst hq
  obtain ⟨a, b, c, d, e, f, g, l, rfl⟩ := eight hp
  obtain ⟨i, rfl⟩ := one_of hs
  simp only [FHome, Option.some.injEq, Prod.mk.injEq, true_and] at hF
  obtain ⟨rfl, rfl⟩ := hF
  exact ⟨trivial, trivial, _, trim_none rfl _, x96 a b c d e f g l i⟩
def S126c {Ω : Type} : Spec Ω := conSpec [.g cfgK, .i .i64] FHome
theorem g126c : Good1 Try.prog 126 S126c := conGood Try.func126 (by kernel_rfl) c126 e126 mix (A := A126) fun L r hr hl hF => by
  obtain ⟨p, q, rfl, hp, s, q2, rfl, hs, hq⟩ := hl
  simp only [lenAs] at hq
  subst hq
  obtain ⟨a, b, c, d, e, f, g, l, rfl⟩ := eight hp
  obtain ⟨i, rfl⟩ := one_of hs
  simp only [FHome, Option.some.injEq, Prod.mk.injEq, true_and] at hF
  obtain ⟨rfl, rfl⟩ := hF
  exact ⟨trivial, trivial, _, trim_none rfl _, x126 a b c d e f g l i⟩
end Go.Sx.Pr

namespace Go.Sx.Pr
open Go Go.Sx Go.Proofs
set_option maxRecDepth 100000
/-- coatcheck/slab.Step$1 -/
def C93 : CF := ⟨3, [],
 .seq (.reg false [⟨some 4, .fa 0 (.t 1), none, 0⟩,
   ⟨none, .st 1 (.t 4) (.c (.d (.v (.int .i64 0)))), none, 0⟩,
   ⟨none, .st 1 (.t 2) (.c (.d (.v (.int .i64 2)))), none, 0⟩])
 (.seq (.reg false [⟨some 5, .mv (.t 0), none, 0⟩])
 (.cond 5 (.reg false [⟨none, .st 1 (.t 2) (.c (.d (.v (.int .i64 1)))), none, 0⟩])
   (.skip)))⟩
theorem c93 : coF Try.prog Try.f93 = some C93 := by kernel_rfl
def A93 : Ann := { keep := [0, 1, 2, 5], live := [] }
def E93 {Ω : Type} : Env Ω := enil
theorem e93 : GoodE Try.prog E93 := GoodE.nil
def S93 {Ω : Type} : Spec Ω := inl E93 A93 C93 false
theorem g93 : Good1 Try.prog 93 S93 := Good1.inl e93 mix Try.func93 (by kernel_rfl) c93 A93 false
/-- coatcheck/slab.draining -/
def C99 : CF := ⟨1, [(2, none)],
 .seq (.reg false [⟨some 2, .mv (.c (.d (.v (.bool false)))), none, 0⟩])
 (.seq (.reg false [⟨some 7, .mv (.t 0), none, 0⟩,
   ⟨some 8, .call (.c (.fn (.func 94) [] [])) [.t 7], none, 0⟩,
   ⟨some 6, .mv (.t 8), none, 0⟩,
   ⟨some 9, .ext 0 (.t 6), none, 0⟩,
   ⟨some 10, .ext 1 (.t 6), none, 0⟩,
   ⟨some 11, .ext 2 (.t 6), none, 0⟩,
   ⟨some 3, .mv (.t 9), none, 0⟩,
   ⟨some 4, .mv (.t 10), none, 0⟩,
   ⟨some 5, .mv (.t 11), none, 0⟩])
 (.seq (.reg false [⟨some 12, .mv (.t 3), none, 0⟩,
   ⟨some 13, .eq .int false (.t 12) (.c (.d (.v (.int .i64 2)))), none, 0⟩,
   ⟨some 2, .mv (.t 13), none, 0⟩])
 (.ret)))⟩
theorem c99 : coF Try.prog Try.f99 = some C99 := by kernel_rfl
def A99 : Ann := { keep := [0, 2, 3], live := [] }
def E99 {Ω : Type} : Env Ω := econs 94 S94c (enil)
theorem e99 : GoodE Try.prog E99 := GoodE.cons g94c (GoodE.nil)
def S99 {Ω : Type} : Spec Ω := inl E99 A99 C99 false
theorem g99 : Good1 Try.prog 99 S99 := Good1.inl e99 mix Try.func99 (by kernel_rfl) c99 A99 false
/-- (*coatcheck/coatcheckref03.Memory).Slab -/
def C104 : CF := ⟨2, [(4, none)],
 .seq (.reg false [⟨some 4, .mv (.c (.d (.v (.int .i64 0)))), none, 0⟩])
 (.seq (.reg false [⟨some 5, .mv (.t 0), none, 0⟩,
   ⟨some 6, .nilc (.t 5), none, 0⟩,
   ⟨some 7, .fa 0 (.t 6), none, 0⟩,
   ⟨some 8, .ld 8 true (.t 7), none, 0⟩,
   ⟨some 9, .mv (.t 1), none, 0⟩,
   ⟨some 10, .bld [.d (.v (.int .i64 0)), .d (.v (.int .i64 0)), .d (.v (.int .i64 0))] [(0, 1, .c (.d (.v (.int .i64 2)))), (1, 1, .t 9)], none, 0⟩,
   ⟨some 11, .call (.c (.fn (.func 82) [] [])) [.t 8, .t 10], none, 0⟩,
   ⟨some 4, .mv (.t 11), none, 0⟩])
 (.ret))⟩
theorem c104 : coF Try.prog Try.f104 = some C104 := by kernel_rfl
def A104 : Ann := { keep := [0, 1, 4], live := [] }
def E104 {Ω : Type} : Env Ω := econs 82 S82 (enil)
theorem e104 : GoodE Try.prog E104 := GoodE.cons g82 (GoodE.nil)
def S104 {Ω : Type} : Spec Ω := inl E104 A104 C104 false
theorem g104 : Good1 Try.prog 104 S104 := Good1.inl e104 mix Try.func104 (by kernel_rfl) c104 A104 false
/-- coatcheck/coatcheckref08.home -/
def C100 : CF := ⟨2, [(4, none)],
 .seq (.reg false [⟨some 4, .mv (.c (.d (.v (.int .i64 0)))), none, 0⟩])
 (.seq (.reg false [⟨some 5, .mv (.t 0), none, 0⟩,
   ⟨some 6, .mv (.t 0), none, 0⟩,
   ⟨some 7, .nilc (.t 6), none, 0⟩,
   ⟨some 8, .fa 0 (.t 7), none, 0⟩,
   ⟨some 9, .ld 8 true (.t 8), none, 0⟩,
   ⟨some 10, .mv (.t 1), none, 0⟩,
   ⟨some 11, .call (.c (.fn (.func 126) [] [])) [.t 9, .t 10], none, 0⟩,
   ⟨some 12, .call (.c (.fn (.func 104) [] [])) [.t 5, .t 11], none, 0⟩,
   ⟨some 4, .mv (.t 12), none, 0⟩])
 (.ret))⟩
theorem c100 : coF Try.prog Try.f100 = some C100 := by kernel_rfl
def A100 : Ann := { keep := [0, 1, 4], live := [] }
def E100 {Ω : Type} : Env Ω := econs 104 S104 (econs 126 S126c (enil))
theorem e100 : GoodE Try.prog E100 := GoodE.cons g104 (GoodE.cons g126c (GoodE.nil))
def S100 {Ω : Type} : Spec Ω := inl E100 A100 C100 false
theorem g100 : Good1 Try.prog 100 S100 := Good1.inl e100 mix Try.func100 (by kernel_rfl) c100 A100 false
/-- coatcheck/coatcheckref08.end -/
def C102 : CF := ⟨2, [(4, some (33, true)), (5, none), (6, none)],
 .seq (.reg false [⟨some 2, .box 73 33 (.t 0), none, 0⟩,
   ⟨some 4, .newc 73 [.d (.v (.int .i64 0)), .d (.v (.int .i64 0)), .d (.v (.int .u64 0)), .d (.v (.int .u64 0)), .d (.v (.int .i64 0)), .d (.v (.bool false)), .d (.v (.int .i64 0)), .d (.v (.int .i64 0)), .d (.v (.bool false)), .d (.v (.int .u64 0)), .d (.v (.slice none 0 0)), .d (.v (.int .u64 0)), .d (.v (.slice none 0 0)), .d (.v (.int .u64 0)), .d (.v (.slice none 0 0)), .d (.v (.int .u64 0)), .d (.v (.slice none 0 0)), .d (.v (.slice none 0 0)), .d (.v (.int .i64 0)), .d (.v (.int .i64 0)), .d (.v (.int .i64 0)), .d (.v (.int .i64 0)), .d (.v (.int .i64 0)), .d (.v (.int .u64 0)), .d (.v (.int .u64 0)), .d (.v (.int .u64 0)), .d (.v (.int .u64 0)), .d (.v (.int .u64 0)), .d (.v (.int .i64 0)), .d (.v (.slice none 0 0)), .d (.v (.int .u64 0)), .d (.v (.int .i64 0)), .d (.v (.bool false))], none, 0⟩,
   ⟨some 5, .mv (.c (.d (.v (.int .i64 0)))), none, 0⟩,
   ⟨some 6, .mv (.c (.d (.v (.bool false)))), none, 0⟩])
 (.seq (.reg false [⟨some 7, .fa 0 (.t 2), none, 0⟩,
   ⟨none, .st 1 (.t 7) (.c (.d (.v (.int .i64 0)))), none, 0⟩])
 (.seq (.seq (.reg false [⟨some 8, .mv (.t 1), none, 0⟩])
 (.cond 8 (.seq (.reg false [⟨some 9, .ld 33 true (.t 2), none, 0⟩,
     ⟨none, .st 33 (.t 4) (.t 9), none, 0⟩,
     ⟨some 5, .mv (.c (.d (.v (.int .i64 1)))), none, 0⟩,
     ⟨some 6, .mv (.c (.d (.v (.bool true)))), none, 0⟩])
   (.ret))
   (.skip)))
 (.seq (.reg false [⟨some 10, .ld 33 true (.t 2), none, 0⟩,
   ⟨none, .st 33 (.t 4) (.t 10), none, 0⟩,
   ⟨some 5, .mv (.c (.d (.v (.int .i64 2)))), none, 0⟩,
   ⟨some 6, .mv (.c (.d (.v (.bool true)))), none, 0⟩])
 (.ret))))⟩
theorem c102 : coF Try.prog Try.f102 = some C102 := by kernel_rfl
def A102 : Ann := { keep := [0, 1, 2, 4, 5, 6, 8], live := [] }
def E102 {Ω : Type} : Env Ω := enil
theorem e102 : GoodE Try.prog E102 := GoodE.nil
def S102 {Ω : Type} : Spec Ω := inl E102 A102 C102 false
theorem g102 : Good1 Try.prog 102 S102 := Good1.inl e102 mix Try.func102 (by kernel_rfl) c102 A102 false
def K61_1 : CC := .seq (.reg true [⟨some 222, .ld 33 true (.t 3), none, 0⟩,
   ⟨some 223, .ld 1 false (.t 7), none, 0⟩,
   ⟨none, .st 33 (.t 4) (.t 222), none, 1⟩,
   ⟨some 5, .mv (.t 223), none, 7⟩,
   ⟨some 6, .mv (.c (.d (.v (.bool true)))), none, 15⟩])
 (.ret)
def K61_2 : CC := .seq (.seq (.reg false [⟨some 87, .mv (.t 10), none, 0⟩,
   ⟨some 88, .mv (.t 0), none, 0⟩,
   ⟨some 89, .nilc (.t 88), none, 0⟩,
   ⟨some 90, .fa 0 (.t 89), none, 0⟩,
   ⟨some 91, .fa 0 (.t 90), none, 0⟩,
   ⟨some 92, .fa 2 (.t 91), none, 0⟩,
   ⟨some 93, .ld 1 false (.t 92), none, 0⟩,
   ⟨some 94, .eq .int false (.t 87) (.t 93), none, 0⟩])
 (.cond 94 (.seq (.reg false [⟨some 95, .fa 0 (.t 3), none, 0⟩,
     ⟨none, .st 1 (.t 95) (.c (.d (.v (.int .i64 31)))), none, 0⟩])
   (.exit 0))
   (.skip)))
 (.seq (.reg false [⟨some 96, .fa 19 (.t 3), none, 0⟩,
   ⟨none, .st 1 (.t 96) (.c (.d (.v (.int .i64 0)))), none, 0⟩])
 (.reg false [⟨some 97, .mv (.t 8), none, 0⟩,
   ⟨some 98, .call (.t 97) [.c (.d (.v (.bool true)))], none, 0⟩]))
def K61_3 : CC := .reg true [⟨some 67, .mv (.t 0), none, 0⟩,
   ⟨some 68, .mv (.t 0), none, 0⟩,
   ⟨some 69, .nilc (.t 68), none, 2⟩,
   ⟨some 70, .fa 0 (.t 69), none, 6⟩,
   ⟨some 71, .ld 8 true (.t 70), none, 14⟩,
   ⟨some 72, .mv (.t 0), none, 0⟩,
   ⟨some 73, .nilc (.t 72), none, 32⟩,
   ⟨some 74, .fa 0 (.t 73), none, 96⟩,
   ⟨some 75, .ld 8 true (.t 74), none, 224⟩,
   ⟨some 76, .fa 19 (.t 3), none, 0⟩,
   ⟨some 77, .ld 1 false (.t 76), none, 512⟩,
   ⟨some 78, .bin .sub (.t 77) (.c (.d (.v (.int .i64 1)))), none, 1536⟩,
   ⟨some 79, .call (.c (.fn (.func 96) [] [])) [.t 75, .t 78], none, 4064⟩,
   ⟨some 80, .call (.c (.fn (.func 95) [] [])) [.t 71, .t 79], none, 8190⟩,
   ⟨some 81, .call (.c (.fn (.func 27) [] [])) [.t 67, .t 80, .c (.d (.v (.int .u64 16)))], none, 16383⟩,
   ⟨some 82, .bin .add (.t 81) (.c (.d (.v (.int .u64 16)))), none, 32767⟩,
   ⟨some 83, .call (.c (.fn (.func 94) [] [])) [.t 82], none, 65535⟩,
   ⟨some 66, .mv (.t 83), none, 131071⟩,
   ⟨some 84, .ext 0 (.t 66), none, 262143⟩,
   ⟨some 85, .ext 1 (.t 66), none, 262143⟩,
   ⟨some 86, .ext 2 (.t 66), none, 262143⟩,
   ⟨some 9, .mv (.t 84), none, 524287⟩,
   ⟨some 10, .mv (.t 85), none, 3145727⟩,
   ⟨some 11, .mv (.t 86), none, 8388607⟩]
def K61_4 : CC := .seq (.reg false [⟨some 101, .mv (.t 0), none, 0⟩,
   ⟨some 102, .call (.c (.fn (.func 21) [] [])) [.t 101, .c (.d (.v (.int .i64 0)))], none, 0⟩,
   ⟨some 103, .fa 25 (.t 3), none, 0⟩,
   ⟨none, .st 1 (.t 103) (.t 102), none, 0⟩])
 (.reg false [⟨some 104, .fa 0 (.t 3), none, 0⟩,
   ⟨none, .st 1 (.t 104) (.c (.d (.v (.int .i64 32)))), none, 0⟩])
def K61_5 : CC := .seq (.reg true [⟨some 107, .mv (.t 0), none, 0⟩,
   ⟨some 108, .mv (.t 0), none, 0⟩,
   ⟨some 109, .nilc (.t 108), none, 2⟩,
   ⟨some 110, .fa 0 (.t 109), none, 6⟩,
   ⟨some 111, .ld 8 true (.t 110), none, 14⟩,
   ⟨some 112, .mv (.t 0), none, 0⟩,
   ⟨some 113, .nilc (.t 112), none, 32⟩,
   ⟨some 114, .fa 0 (.t 113), none, 96⟩,
   ⟨some 115, .ld 8 true (.t 114), none, 224⟩,
   ⟨some 116, .fa 19 (.t 3), none, 0⟩,
   ⟨some 117, .ld 1 false (.t 116), none, 512⟩,
   ⟨some 118, .bin .sub (.t 117) (.c (.d (.v (.int .i64 1)))), none, 1536⟩,
   ⟨some 119, .call (.c (.fn (.func 96) [] [])) [.t 115, .t 118], none, 4064⟩,
   ⟨some 120, .call (.c (.fn (.func 95) [] [])) [.t 111, .t 119], none, 8190⟩,
   ⟨some 121, .fa 25 (.t 3), none, 0⟩,
   ⟨some 122, .ld 1 false (.t 121), none, 16384⟩,
   ⟨some 123, .call (.c (.fn (.func 97) [] [])) [.c (.d (.v (.int .i64 3))), .c (.d (.v (.int .i64 0))), .t 122], none, 65534⟩,
   ⟨some 124, .call (.c (.fn (.func 23) [] [])) [.t 107, .t 120, .t 123], none, 131071⟩])
 (.seq (.reg false [⟨some 125, .fa 19 (.t 3), none, 0⟩,
   ⟨none, .st 1 (.t 125) (.c (.d (.v (.int .i64 0)))), none, 0⟩])
 (.reg false [⟨some 126, .mv (.t 8), none, 0⟩,
   ⟨some 127, .call (.t 126) [.c (.d (.v (.bool true)))], none, 0⟩]))
def K61_6 : CC := .seq (.seq (.reg false [⟨some 140, .fa 25 (.t 3), none, 0⟩,
   ⟨some 141, .ld 1 false (.t 140), none, 0⟩,
   ⟨some 142, .fa 9 (.t 3), none, 0⟩,
   ⟨some 143, .ld 1 false (.t 142), none, 0⟩,
   ⟨some 144, .call (.c (.fn (.func 98) [] [])) [.t 141, .t 143], none, 0⟩])
 (.cond 144 (.seq (.reg false [⟨some 145, .fa 0 (.t 3), none, 0⟩,
     ⟨none, .st 1 (.t 145) (.c (.d (.v (.int .i64 34)))), none, 0⟩])
   (.exit 0))
   (.skip)))
 (.seq (.seq (.reg true [⟨some 146, .fa 28 (.t 3), none, 0⟩,
   ⟨some 147, .ld 1 false (.t 146), none, 1⟩,
   ⟨some 148, .mv (.t 0), none, 0⟩,
   ⟨some 149, .nilc (.t 148), none, 4⟩,
   ⟨some 150, .fa 0 (.t 149), none, 12⟩,
   ⟨some 151, .fa 0 (.t 150), none, 28⟩,
   ⟨some 152, .fa 1 (.t 151), none, 60⟩,
   ⟨some 153, .ld 1 false (.t 152), none, 124⟩,
   ⟨some 154, .bin .sub (.t 153) (.c (.d (.v (.int .i64 1)))), none, 252⟩,
   ⟨some 155, .bin .geq (.t 147) (.t 154), none, 511⟩])
 (.cond 155 (.reg false [⟨some 156, .mv (.t 8), none, 0⟩,
     ⟨some 157, .call (.t 156) [.c (.d (.v (.bool false)))], none, 0⟩])
   (.skip)))
 (.reg false [⟨some 158, .fa 28 (.t 3), none, 0⟩,
   ⟨some 159, .ld 1 false (.t 158), none, 0⟩,
   ⟨some 160, .bin .add (.t 159) (.c (.d (.v (.int .i64 1)))), none, 0⟩,
   ⟨some 161, .fa 28 (.t 3), none, 0⟩,
   ⟨none, .st 1 (.t 161) (.t 160), none, 0⟩]))
def K61_7 : CC := .reg true [⟨some 130, .mv (.t 0), none, 0⟩,
   ⟨some 131, .mv (.t 0), none, 0⟩,
   ⟨some 132, .nilc (.t 131), none, 2⟩,
   ⟨some 133, .fa 0 (.t 132), none, 6⟩,
   ⟨some 134, .ld 8 true (.t 133), none, 14⟩,
   ⟨some 135, .fa 28 (.t 3), none, 0⟩,
   ⟨some 136, .ld 1 false (.t 135), none, 32⟩,
   ⟨some 137, .call (.c (.fn (.func 95) [] [])) [.t 134, .t 136], none, 126⟩,
   ⟨some 138, .call (.c (.fn (.func 21) [] [])) [.t 130, .t 137], none, 255⟩,
   ⟨some 139, .fa 25 (.t 3), none, 511⟩,
   ⟨none, .st 1 (.t 139) (.t 138), none, 1023⟩]
def K61_8 : CC := .seq (.reg true [⟨some 164, .mv (.t 0), none, 0⟩,
   ⟨some 165, .mv (.t 0), none, 0⟩,
   ⟨some 166, .nilc (.t 165), none, 2⟩,
   ⟨some 167, .fa 0 (.t 166), none, 6⟩,
   ⟨some 168, .ld 8 true (.t 167), none, 14⟩,
   ⟨some 169, .fa 28 (.t 3), none, 0⟩,
   ⟨some 170, .ld 1 false (.t 169), none, 32⟩,
   ⟨some 171, .call (.c (.fn (.func 95) [] [])) [.t 168, .t 170], none, 126⟩,
   ⟨some 172, .fa 25 (.t 3), none, 0⟩,
   ⟨some 173, .ld 1 false (.t 172), none, 256⟩,
   ⟨some 174, .call (.c (.fn (.func 97) [] [])) [.c (.d (.v (.int .i64 1))), .c (.d (.v (.int .i64 0))), .c (.d (.v (.int .u64 0)))], none, 254⟩,
   ⟨some 175, .call (.c (.fn (.func 25) [] [])) [.t 164, .t 171, .t 173, .t 174], none, 2047⟩])
 (.cond 175 (.reg false [⟨some 176, .mv (.t 8), none, 0⟩,
     ⟨some 177, .call (.t 176) [.c (.d (.v (.bool true)))], none, 0⟩])
   (.reg false [⟨some 178, .fa 0 (.t 3), none, 0⟩,
     ⟨none, .st 1 (.t 178) (.c (.d (.v (.int .i64 33)))), none, 0⟩]))
def K61_9 : CC := .seq (.reg false [⟨some 193, .fa 25 (.t 3), none, 0⟩,
   ⟨some 194, .ld 1 false (.t 193), none, 0⟩,
   ⟨some 195, .call (.c (.fn (.func 94) [] [])) [.t 194], none, 0⟩,
   ⟨some 192, .mv (.t 195), none, 0⟩,
   ⟨some 196, .ext 0 (.t 192), none, 0⟩,
   ⟨some 197, .ext 1 (.t 192), none, 0⟩,
   ⟨some 198, .ext 2 (.t 192), none, 0⟩,
   ⟨some 12, .mv (.t 196), none, 0⟩,
   ⟨some 13, .mv (.t 197), none, 0⟩,
   ⟨some 14, .mv (.t 198), none, 0⟩])
 (.seq (.reg false [⟨some 199, .mv (.t 12), none, 0⟩,
   ⟨some 200, .eq .int true (.t 199) (.c (.d (.v (.int .i64 1)))), none, 0⟩])
 (.cond 200 (.reg false [⟨some 201, .mv (.t 8), none, 0⟩,
     ⟨some 202, .call (.t 201) [.c (.d (.v (.bool false)))], none, 0⟩])
   (.reg false [⟨some 203, .fa 0 (.t 3), none, 0⟩,
     ⟨none, .st 1 (.t 203) (.c (.d (.v (.int .i64 37)))), none, 0⟩])))
def K61_10 : CC := .reg true [⟨some 181, .mv (.t 0), none, 0⟩,
   ⟨some 182, .mv (.t 0), none, 0⟩,
   ⟨some 183, .nilc (.t 182), none, 2⟩,
   ⟨some 184, .fa 0 (.t 183), none, 6⟩,
   ⟨some 185, .ld 8 true (.t 184), none, 14⟩,
   ⟨some 186, .fa 1 (.t 3), none, 0⟩,
   ⟨some 187, .fa 3 (.t 186), none, 32⟩,
   ⟨some 188, .ld 1 false (.t 187), none, 96⟩,
   ⟨some 189, .call (.c (.fn (.func 95) [] [])) [.t 185, .t 188], none, 254⟩,
   ⟨some 190, .call (.c (.fn (.func 21) [] [])) [.t 181, .t 189], none, 511⟩,
   ⟨some 191, .fa 25 (.t 3), none, 1023⟩,
   ⟨none, .st 1 (.t 191) (.t 190), none, 2047⟩]
def K61_11 : CC := .seq (.reg true [⟨some 206, .mv (.t 0), none, 0⟩,
   ⟨some 207, .mv (.t 0), none, 0⟩,
   ⟨some 208, .nilc (.t 207), none, 2⟩,
   ⟨some 209, .fa 0 (.t 208), none, 6⟩,
   ⟨some 210, .ld 8 true (.t 209), none, 14⟩,
   ⟨some 211, .fa 1 (.t 3), none, 0⟩,
   ⟨some 212, .fa 3 (.t 211), none, 32⟩,
   ⟨some 213, .ld 1 false (.t 212), none, 96⟩,
   ⟨some 214, .call (.c (.fn (.func 95) [] [])) [.t 210, .t 213], none, 254⟩,
   ⟨some 215, .fa 25 (.t 3), none, 0⟩,
   ⟨some 216, .ld 1 false (.t 215), none, 512⟩,
   ⟨some 217, .call (.c (.fn (.func 97) [] [])) [.c (.d (.v (.int .i64 2))), .c (.d (.v (.int .i64 0))), .c (.d (.v (.int .u64 0)))], none, 510⟩,
   ⟨some 218, .call (.c (.fn (.func 25) [] [])) [.t 206, .t 214, .t 216, .t 217], none, 4095⟩])
 (.cond 218 (.reg false [⟨some 219, .mv (.t 8), none, 0⟩,
     ⟨some 220, .call (.t 219) [.c (.d (.v (.bool true)))], none, 0⟩])
   (.reg false [⟨some 221, .fa 0 (.t 3), none, 0⟩,
     ⟨none, .st 1 (.t 221) (.c (.d (.v (.int .i64 36)))), none, 0⟩]))
def K61_12 : CC := .seq (.seq (.reg false [⟨some 41, .fa 0 (.t 3), none, 0⟩,
   ⟨some 42, .ld 1 false (.t 41), none, 0⟩,
   ⟨some 43, .eq .int false (.t 42) (.c (.d (.v (.int .i64 35)))), none, 0⟩])
 (.cond 43 (.reg false [⟨some 44, .fa 18 (.t 3), none, 0⟩,
     ⟨some 45, .ld 1 false (.t 44), none, 0⟩,
     ⟨some 15, .mv (.t 45), none, 0⟩])
   (.skip)))
 (.reg true [⟨some 46, .mv (.t 8), none, 0⟩,
   ⟨some 47, .mv (.t 0), none, 0⟩,
   ⟨some 48, .mv (.t 0), none, 0⟩,
   ⟨some 49, .nilc (.t 48), none, 4⟩,
   ⟨some 50, .fa 0 (.t 49), none, 12⟩,
   ⟨some 51, .ld 8 true (.t 50), none, 28⟩,
   ⟨some 52, .mv (.t 0), none, 0⟩,
   ⟨some 53, .nilc (.t 52), none, 64⟩,
   ⟨some 54, .fa 0 (.t 53), none, 192⟩,
   ⟨some 55, .ld 8 true (.t 54), none, 448⟩,
   ⟨some 56, .mv (.t 15), none, 0⟩,
   ⟨some 57, .bin .sub (.t 56) (.c (.d (.v (.int .i64 1)))), none, 1024⟩,
   ⟨some 58, .call (.c (.fn (.func 96) [] [])) [.t 55, .t 57], none, 4032⟩,
   ⟨some 59, .call (.c (.fn (.func 95) [] [])) [.t 51, .t 58], none, 8188⟩,
   ⟨some 60, .call (.c (.fn (.func 21) [] [])) [.t 47, .t 59], none, 16382⟩,
   ⟨some 61, .call (.c (.fn (.func 99) [] [])) [.t 60], none, 32766⟩,
   ⟨some 62, .un .not (.t 61), none, 65534⟩,
   ⟨some 63, .call (.t 46) [.t 62], none, 131071⟩])
def K61_13 : CC := .reg false [⟨some 39, .fa 19 (.t 3), none, 0⟩,
   ⟨some 40, .ld 1 false (.t 39), none, 0⟩,
   ⟨some 15, .mv (.t 40), none, 0⟩]
def K61_14 : CC := .reg false [⟨some 205, .eq .int false (.t 38) (.c (.d (.v (.int .i64 37)))), none, 0⟩,
   ⟨some 204, .mv (.t 205), none, 0⟩]
def K61_15 : CC := .reg false [⟨some 180, .eq .int false (.t 38) (.c (.d (.v (.int .i64 36)))), none, 0⟩,
   ⟨some 179, .mv (.t 180), none, 0⟩]
def K61_16 : CC := .reg false [⟨some 163, .eq .int false (.t 38) (.c (.d (.v (.int .i64 34)))), none, 0⟩,
   ⟨some 162, .mv (.t 163), none, 0⟩]
def K61_17 : CC := .reg false [⟨some 129, .eq .int false (.t 38) (.c (.d (.v (.int .i64 33)))), none, 0⟩,
   ⟨some 128, .mv (.t 129), none, 0⟩]
def K61_18 : CC := .reg false [⟨some 106, .eq .int false (.t 38) (.c (.d (.v (.int .i64 32)))), none, 0⟩,
   ⟨some 105, .mv (.t 106), none, 0⟩]
def K61_19 : CC := .reg false [⟨some 100, .eq .int false (.t 38) (.c (.d (.v (.int .i64 31)))), none, 0⟩,
   ⟨some 99, .mv (.t 100), none, 0⟩]
def K61_20 : CC := .reg false [⟨some 65, .eq .int false (.t 38) (.c (.d (.v (.int .i64 30)))), none, 0⟩,
   ⟨some 64, .mv (.t 65), none, 0⟩]
def K61_21 : CC := .reg false [⟨some 37, .fa 0 (.t 3), none, 0⟩,
   ⟨some 38, .ld 1 false (.t 37), none, 0⟩]
def K61_22 : CC := .reg false [⟨some 36, .mkf (.func 93) [] [.t 3, .t 7], none, 0⟩,
   ⟨some 8, .mv (.t 36), none, 0⟩]
def K61_23 : CC := .reg false [⟨some 7, .newc 3 [.d (.v (.int .i64 0))], none, 0⟩,
   ⟨none, .st 1 (.t 7) (.c (.d (.v (.int .i64 0)))), none, 0⟩]
def K61_24 : CC := .reg false [⟨some 34, .mv (.t 0), none, 0⟩,
   ⟨some 35, .call (.c (.fn (.func 29) [] [])) [.t 34], none, 0⟩]
def K61_25 : CC := .seq (.reg false [⟨some 16, .mv (.t 0), none, 0⟩,
   ⟨some 17, .eq .ptr false (.t 16) (.c (.d (.v (.pointer none)))), none, 0⟩,
   ⟨some 18, .mv (.t 17), none, 0⟩,
   ⟨some 19, .fa 0 (.t 3), some (18, false), 0⟩,
   ⟨some 20, .ld 1 false (.t 19), some (18, false), 0⟩,
   ⟨some 21, .bin .lss (.t 20) (.c (.d (.v (.int .i64 30)))), some (18, false), 0⟩,
   ⟨some 22, .pick (.t 18) (.c (.d (.v (.bool true)))) (.t 21), none, 0⟩,
   ⟨some 23, .mv (.t 22), none, 0⟩,
   ⟨some 24, .fa 0 (.t 3), some (23, false), 0⟩,
   ⟨some 25, .ld 1 false (.t 24), some (23, false), 0⟩,
   ⟨some 26, .bin .gtr (.t 25) (.c (.d (.v (.int .i64 39)))), some (23, false), 0⟩,
   ⟨some 27, .pick (.t 23) (.c (.d (.v (.bool true)))) (.t 26), none, 0⟩,
   ⟨some 28, .mv (.t 27), none, 0⟩,
   ⟨some 29, .fa 0 (.t 3), some (28, false), 0⟩,
   ⟨some 30, .ld 1 false (.t 29), some (28, false), 0⟩,
   ⟨some 31, .eq .int false (.t 30) (.c (.d (.v (.int .i64 38)))), some (28, false), 0⟩,
   ⟨some 32, .pick (.t 28) (.c (.d (.v (.bool true)))) (.t 31), none, 0⟩])
 (.cond 32 (.seq (.reg false [⟨some 33, .ld 33 true (.t 3), none, 0⟩,
     ⟨none, .st 33 (.t 4) (.t 33), none, 0⟩,
     ⟨some 5, .mv (.c (.d (.v (.int .i64 0)))), none, 0⟩,
     ⟨some 6, .mv (.c (.d (.v (.bool false)))), none, 0⟩])
   (.ret))
   (.skip))
def K61_26 : CC := .reg false [⟨some 3, .box 73 33 (.t 1), none, 0⟩,
   ⟨some 4, .newc 73 [.d (.v (.int .i64 0)), .d (.v (.int .i64 0)), .d (.v (.int .u64 0)), .d (.v (.int .u64 0)), .d (.v (.int .i64 0)), .d (.v (.bool false)), .d (.v (.int .i64 0)), .d (.v (.int .i64 0)), .d (.v (.bool false)), .d (.v (.int .u64 0)), .d (.v (.slice none 0 0)), .d (.v (.int .u64 0)), .d (.v (.slice none 0 0)), .d (.v (.int .u64 0)), .d (.v (.slice none 0 0)), .d (.v (.int .u64 0)), .d (.v (.slice none 0 0)), .d (.v (.slice none 0 0)), .d (.v (.int .i64 0)), .d (.v (.int .i64 0)), .d (.v (.int .i64 0)), .d (.v (.int .i64 0)), .d (.v (.int .i64 0)), .d (.v (.int .u64 0)), .d (.v (.int .u64 0)), .d (.v (.int .u64 0)), .d (.v (.int .u64 0)), .d (.v (.int .u64 0)), .d (.v (.int .i64 0)), .d (.v (.slice none 0 0)), .d (.v (.int .u64 0)), .d (.v (.int .i64 0)), .d (.v (.bool false))], none, 0⟩,
   ⟨some 5, .mv (.c (.d (.v (.int .i64 0)))), none, 0⟩,
   ⟨some 6, .mv (.c (.d (.v (.bool false)))), none, 0⟩]
/-- coatcheck/slab.Step -/
def C61 : CF := ⟨2, [(4, some (33, true)), (5, none), (6, none)],
 .seq K61_26 (.seq K61_25 (.seq K61_24 (.seq K61_23 (.seq K61_22 (.seq (.seq K61_21 (.block 0 (.seq K61_20 (.cond 64 (.seq K61_3 K61_2) (.seq K61_19 (.cond 99 K61_4 (.seq K61_18 (.cond 105 K61_5 (.seq K61_17 (.cond 128 (.seq K61_7 K61_6) (.seq K61_16 (.cond 162 K61_8 (.seq K61_15 (.cond 179 (.seq K61_10 K61_9) (.seq K61_14 (.cond 204 K61_11 (.seq K61_13 K61_12))))))))))))))))) K61_1)))))⟩
theorem c61 : coF Try.prog Try.f61 = some C61 := by kernel_rfl
def A61 : Ann := { keep := [0, 1, 3, 4, 5, 6, 7, 8, 10, 12, 15, 32, 38, 43, 64, 94, 99, 105, 128, 144, 155, 162, 175, 179, 200, 204, 218], live := [] }
def E61 {Ω : Type} : Env Ω := econs 23 S23m (econs 98 S98c (econs 29 S29m (econs 21 S21m (econs 25 S25m (econs 93 S93 (econs 94 S94c (econs 27 S27m (econs 95 S95 (econs 96 S96c (econs 97 S97c (econs 99 S99 (enil))))))))))))
theorem e61 : GoodE Try.prog E61 := GoodE.cons g23m (GoodE.cons g98c (GoodE.cons g29m (GoodE.cons g21m (GoodE.cons g25m (GoodE.cons g93 (GoodE.cons g94c (GoodE.cons g27m (GoodE.cons g95 (GoodE.cons g96c (GoodE.cons g97c (GoodE.cons g99 (GoodE.nil))))))))))))
def K62_1 : CC := .seq (.reg false [⟨some 230, .ld 33 true (.t 3), none, 0⟩,
   ⟨none, .st 33 (.t 4) (.t 230), none, 0⟩,
   ⟨some 5, .mv (.c (.d (.v (.int .i64 0)))), none, 0⟩,
   ⟨some 6, .mv (.c (.d (.v (.bool true)))), none, 0⟩])
 (.ret)
def K62_2 : CC := .seq (.seq (.reg false [⟨some 57, .mv (.t 9), none, 0⟩,
   ⟨some 58, .mv (.t 0), none, 0⟩,
   ⟨some 59, .nilc (.t 58), none, 0⟩,
   ⟨some 60, .fa 0 (.t 59), none, 0⟩,
   ⟨some 61, .fa 2 (.t 60), none, 0⟩,
   ⟨some 62, .ld 1 false (.t 61), none, 0⟩,
   ⟨some 63, .eq .int true (.t 57) (.t 62), none, 0⟩])
 (.cond 63 (.seq (.reg false [⟨some 64, .fa 19 (.t 3), none, 0⟩,
     ⟨none, .st 1 (.t 64) (.c (.d (.v (.int .i64 0)))), none, 0⟩])
   (.seq (.reg false [⟨some 65, .ld 33 true (.t 3), none, 0⟩,
     ⟨some 66, .call (.c (.fn (.func 102) [] [])) [.t 65, .c (.d (.v (.bool true)))], none, 0⟩,
     ⟨some 67, .ext 0 (.t 66), none, 0⟩,
     ⟨some 68, .ext 1 (.t 66), none, 0⟩,
     ⟨some 69, .ext 2 (.t 66), none, 0⟩,
     ⟨none, .st 33 (.t 4) (.t 67), none, 0⟩,
     ⟨some 5, .mv (.t 68), none, 0⟩,
     ⟨some 6, .mv (.t 69), none, 0⟩])
   (.ret)))
   (.skip)))
 (.reg false [⟨some 70, .fa 0 (.t 3), none, 0⟩,
   ⟨none, .st 1 (.t 70) (.c (.d (.v (.int .i64 31)))), none, 0⟩])
def K62_3 : CC := .reg false [⟨some 51, .mv (.t 7), none, 0⟩,
   ⟨some 52, .bin .add (.t 51) (.c (.d (.v (.int .u64 16)))), none, 0⟩,
   ⟨some 53, .call (.c (.fn (.func 101) [] [])) [.t 52], none, 0⟩,
   ⟨some 50, .mv (.t 53), none, 0⟩,
   ⟨some 54, .ext 0 (.t 50), none, 0⟩,
   ⟨some 55, .ext 1 (.t 50), none, 0⟩,
   ⟨some 56, .ext 2 (.t 50), none, 0⟩,
   ⟨some 8, .mv (.t 54), none, 0⟩,
   ⟨some 9, .mv (.t 55), none, 0⟩,
   ⟨some 10, .mv (.t 56), none, 0⟩]
def K62_4 : CC := .reg false [⟨some 43, .mv (.t 0), none, 0⟩,
   ⟨some 44, .mv (.t 0), none, 0⟩,
   ⟨some 45, .fa 19 (.t 3), none, 0⟩,
   ⟨some 46, .ld 1 false (.t 45), none, 0⟩,
   ⟨some 47, .bin .sub (.t 46) (.c (.d (.v (.int .i64 1)))), none, 0⟩,
   ⟨some 48, .call (.c (.fn (.func 100) [] [])) [.t 44, .t 47], none, 0⟩,
   ⟨some 49, .call (.c (.fn (.func 28) [] [])) [.t 43, .t 48, .c (.d (.v (.int .u64 16)))], none, 0⟩,
   ⟨some 7, .mv (.t 49), none, 0⟩]
def K62_5 : CC := .seq (.reg false [⟨some 73, .mv (.t 0), none, 0⟩,
   ⟨some 74, .call (.c (.fn (.func 22) [] [])) [.t 73, .c (.d (.v (.int .i64 0)))], none, 0⟩,
   ⟨some 75, .fa 25 (.t 3), none, 0⟩,
   ⟨none, .st 1 (.t 75) (.t 74), none, 0⟩])
 (.reg false [⟨some 76, .fa 0 (.t 3), none, 0⟩,
   ⟨none, .st 1 (.t 76) (.c (.d (.v (.int .i64 32)))), none, 0⟩])
def K62_6 : CC := .seq (.reg true [⟨some 79, .mv (.t 0), none, 0⟩,
   ⟨some 80, .mv (.t 0), none, 0⟩,
   ⟨some 81, .fa 19 (.t 3), none, 0⟩,
   ⟨some 82, .ld 1 false (.t 81), none, 4⟩,
   ⟨some 83, .bin .sub (.t 82) (.c (.d (.v (.int .i64 1)))), none, 12⟩,
   ⟨some 84, .call (.c (.fn (.func 100) [] [])) [.t 80, .t 83], none, 30⟩,
   ⟨some 85, .fa 25 (.t 3), none, 0⟩,
   ⟨some 86, .ld 1 false (.t 85), none, 64⟩,
   ⟨some 87, .call (.c (.fn (.func 103) [] [])) [.c (.d (.v (.int .i64 3))), .c (.d (.v (.int .i64 0))), .t 86], none, 254⟩,
   ⟨some 88, .call (.c (.fn (.func 24) [] [])) [.t 79, .t 84, .t 87], none, 511⟩])
 (.seq (.reg false [⟨some 89, .fa 19 (.t 3), none, 0⟩,
   ⟨none, .st 1 (.t 89) (.c (.d (.v (.int .i64 0)))), none, 0⟩])
 (.seq (.reg false [⟨some 90, .ld 33 true (.t 3), none, 0⟩,
   ⟨some 91, .call (.c (.fn (.func 102) [] [])) [.t 90, .c (.d (.v (.bool true)))], none, 0⟩,
   ⟨some 92, .ext 0 (.t 91), none, 0⟩,
   ⟨some 93, .ext 1 (.t 91), none, 0⟩,
   ⟨some 94, .ext 2 (.t 91), none, 0⟩,
   ⟨none, .st 33 (.t 4) (.t 92), none, 0⟩,
   ⟨some 5, .mv (.t 93), none, 0⟩,
   ⟨some 6, .mv (.t 94), none, 0⟩])
 (.ret)))
def K62_7 : CC := .seq (.reg true [⟨some 111, .fa 28 (.t 3), none, 0⟩,
   ⟨some 112, .ld 1 false (.t 111), none, 1⟩,
   ⟨some 113, .mv (.t 0), none, 0⟩,
   ⟨some 114, .nilc (.t 113), none, 4⟩,
   ⟨some 115, .fa 0 (.t 114), none, 12⟩,
   ⟨some 116, .fa 1 (.t 115), none, 28⟩,
   ⟨some 117, .ld 1 false (.t 116), none, 60⟩,
   ⟨some 118, .bin .sub (.t 117) (.c (.d (.v (.int .i64 1)))), none, 124⟩,
   ⟨some 119, .bin .geq (.t 112) (.t 118), none, 255⟩,
   ⟨some 11, .mv (.t 119), none, 511⟩])
 (.seq (.reg false [⟨some 120, .fa 28 (.t 3), none, 0⟩,
   ⟨some 121, .ld 1 false (.t 120), none, 0⟩,
   ⟨some 122, .bin .add (.t 121) (.c (.d (.v (.int .i64 1)))), none, 0⟩,
   ⟨some 123, .fa 28 (.t 3), none, 0⟩,
   ⟨none, .st 1 (.t 123) (.t 122), none, 0⟩])
 (.seq (.reg false [⟨some 124, .mv (.t 11), none, 0⟩])
 (.cond 124 (.seq (.reg false [⟨some 125, .ld 33 true (.t 3), none, 0⟩,
     ⟨some 126, .call (.c (.fn (.func 102) [] [])) [.t 125, .c (.d (.v (.bool false)))], none, 0⟩,
     ⟨some 127, .ext 0 (.t 126), none, 0⟩,
     ⟨some 128, .ext 1 (.t 126), none, 0⟩,
     ⟨some 129, .ext 2 (.t 126), none, 0⟩,
     ⟨none, .st 33 (.t 4) (.t 127), none, 0⟩,
     ⟨some 5, .mv (.t 128), none, 0⟩,
     ⟨some 6, .mv (.t 129), none, 0⟩])
   (.ret))
   (.skip))))
def K62_8 : CC := .seq (.reg false [⟨some 104, .fa 25 (.t 3), none, 0⟩,
   ⟨some 105, .ld 1 false (.t 104), none, 0⟩,
   ⟨some 106, .fa 9 (.t 3), none, 0⟩,
   ⟨some 107, .ld 1 false (.t 106), none, 0⟩,
   ⟨some 108, .call (.c (.fn (.func 105) [] [])) [.t 105, .t 107], none, 0⟩])
 (.cond 108 (.seq (.reg false [⟨some 109, .fa 0 (.t 3), none, 0⟩,
     ⟨none, .st 1 (.t 109) (.c (.d (.v (.int .i64 34)))), none, 0⟩])
   (.seq (.reg false [⟨some 110, .ld 33 true (.t 3), none, 0⟩,
     ⟨none, .st 33 (.t 4) (.t 110), none, 0⟩,
     ⟨some 5, .mv (.c (.d (.v (.int .i64 0)))), none, 0⟩,
     ⟨some 6, .mv (.c (.d (.v (.bool true)))), none, 0⟩])
   (.ret)))
   (.skip))
def K62_9 : CC := .reg false [⟨some 97, .mv (.t 0), none, 0⟩,
   ⟨some 98, .mv (.t 0), none, 0⟩,
   ⟨some 99, .fa 28 (.t 3), none, 0⟩,
   ⟨some 100, .ld 1 false (.t 99), none, 0⟩,
   ⟨some 101, .call (.c (.fn (.func 104) [] [])) [.t 98, .t 100], none, 0⟩,
   ⟨some 102, .call (.c (.fn (.func 22) [] [])) [.t 97, .t 101], none, 0⟩,
   ⟨some 103, .fa 25 (.t 3), none, 0⟩,
   ⟨none, .st 1 (.t 103) (.t 102), none, 0⟩]
def K62_10 : CC := .seq (.seq (.reg true [⟨some 132, .mv (.t 0), none, 0⟩,
   ⟨some 133, .mv (.t 0), none, 0⟩,
   ⟨some 134, .fa 28 (.t 3), none, 0⟩,
   ⟨some 135, .ld 1 false (.t 134), none, 4⟩,
   ⟨some 136, .call (.c (.fn (.func 104) [] [])) [.t 133, .t 135], none, 14⟩,
   ⟨some 137, .fa 25 (.t 3), none, 0⟩,
   ⟨some 138, .ld 1 false (.t 137), none, 32⟩,
   ⟨some 139, .call (.c (.fn (.func 26) [] [])) [.t 132, .t 136, .t 138, .c (.d (.v (.int .u64 1)))], none, 127⟩])
 (.cond 139 (.seq (.reg false [⟨some 140, .ld 33 true (.t 3), none, 0⟩,
     ⟨some 141, .call (.c (.fn (.func 102) [] [])) [.t 140, .c (.d (.v (.bool true)))], none, 0⟩,
     ⟨some 142, .ext 0 (.t 141), none, 0⟩,
     ⟨some 143, .ext 1 (.t 141), none, 0⟩,
     ⟨some 144, .ext 2 (.t 141), none, 0⟩,
     ⟨none, .st 33 (.t 4) (.t 142), none, 0⟩,
     ⟨some 5, .mv (.t 143), none, 0⟩,
     ⟨some 6, .mv (.t 144), none, 0⟩])
   (.ret))
   (.skip)))
 (.reg false [⟨some 145, .fa 0 (.t 3), none, 0⟩,
   ⟨none, .st 1 (.t 145) (.c (.d (.v (.int .i64 33)))), none, 0⟩])
def K62_11 : CC := .seq (.reg false [⟨some 149, .mv (.t 0), none, 0⟩,
   ⟨some 150, .mv (.t 0), none, 0⟩,
   ⟨some 151, .fa 18 (.t 3), none, 0⟩,
   ⟨some 152, .ld 1 false (.t 151), none, 0⟩,
   ⟨some 153, .bin .sub (.t 152) (.c (.d (.v (.int .i64 1)))), none, 0⟩,
   ⟨some 154, .call (.c (.fn (.func 100) [] [])) [.t 150, .t 153], none, 0⟩,
   ⟨some 155, .call (.c (.fn (.func 22) [] [])) [.t 149, .t 154], none, 0⟩,
   ⟨some 156, .call (.c (.fn (.func 101) [] [])) [.t 155], none, 0⟩,
   ⟨some 148, .mv (.t 156), none, 0⟩,
   ⟨some 157, .ext 0 (.t 148), none, 0⟩,
   ⟨some 158, .ext 1 (.t 148), none, 0⟩,
   ⟨some 159, .ext 2 (.t 148), none, 0⟩,
   ⟨some 12, .mv (.t 157), none, 0⟩,
   ⟨some 13, .mv (.t 158), none, 0⟩,
   ⟨some 14, .mv (.t 159), none, 0⟩])
 (.seq (.reg false [⟨some 160, .ld 33 true (.t 3), none, 0⟩,
   ⟨some 161, .mv (.t 12), none, 0⟩,
   ⟨some 162, .eq .int true (.t 161) (.c (.d (.v (.int .i64 2)))), none, 0⟩,
   ⟨some 163, .call (.c (.fn (.func 102) [] [])) [.t 160, .t 162], none, 0⟩,
   ⟨some 164, .ext 0 (.t 163), none, 0⟩,
   ⟨some 165, .ext 1 (.t 163), none, 0⟩,
   ⟨some 166, .ext 2 (.t 163), none, 0⟩,
   ⟨none, .st 33 (.t 4) (.t 164), none, 0⟩,
   ⟨some 5, .mv (.t 165), none, 0⟩,
   ⟨some 6, .mv (.t 166), none, 0⟩])
 (.ret))
def K62_12 : CC := .seq (.reg false [⟨some 178, .fa 25 (.t 3), none, 0⟩,
   ⟨some 179, .ld 1 false (.t 178), none, 0⟩,
   ⟨some 180, .call (.c (.fn (.func 101) [] [])) [.t 179], none, 0⟩,
   ⟨some 177, .mv (.t 180), none, 0⟩,
   ⟨some 181, .ext 0 (.t 177), none, 0⟩,
   ⟨some 182, .ext 1 (.t 177), none, 0⟩,
   ⟨some 183, .ext 2 (.t 177), none, 0⟩,
   ⟨some 15, .mv (.t 181), none, 0⟩,
   ⟨some 16, .mv (.t 182), none, 0⟩,
   ⟨some 17, .mv (.t 183), none, 0⟩])
 (.seq (.seq (.reg false [⟨some 184, .mv (.t 15), none, 0⟩,
   ⟨some 185, .eq .int true (.t 184) (.c (.d (.v (.int .i64 1)))), none, 0⟩])
 (.cond 185 (.seq (.reg false [⟨some 186, .ld 33 true (.t 3), none, 0⟩,
     ⟨some 187, .call (.c (.fn (.func 102) [] [])) [.t 186, .c (.d (.v (.bool false)))], none, 0⟩,
     ⟨some 188, .ext 0 (.t 187), none, 0⟩,
     ⟨some 189, .ext 1 (.t 187), none, 0⟩,
     ⟨some 190, .ext 2 (.t 187), none, 0⟩,
     ⟨none, .st 33 (.t 4) (.t 188), none, 0⟩,
     ⟨some 5, .mv (.t 189), none, 0⟩,
     ⟨some 6, .mv (.t 190), none, 0⟩])
   (.ret))
   (.skip)))
 (.reg false [⟨some 191, .fa 0 (.t 3), none, 0⟩,
   ⟨none, .st 1 (.t 191) (.c (.d (.v (.int .i64 37)))), none, 0⟩]))
def K62_13 : CC := .reg false [⟨some 169, .mv (.t 0), none, 0⟩,
   ⟨some 170, .mv (.t 0), none, 0⟩,
   ⟨some 171, .fa 1 (.t 3), none, 0⟩,
   ⟨some 172, .fa 3 (.t 171), none, 0⟩,
   ⟨some 173, .ld 1 false (.t 172), none, 0⟩,
   ⟨some 174, .call (.c (.fn (.func 104) [] [])) [.t 170, .t 173], none, 0⟩,
   ⟨some 175, .call (.c (.fn (.func 22) [] [])) [.t 169, .t 174], none, 0⟩,
   ⟨some 176, .fa 25 (.t 3), none, 0⟩,
   ⟨none, .st 1 (.t 176) (.t 175), none, 0⟩]
def K62_14 : CC := .seq (.seq (.reg true [⟨some 194, .mv (.t 0), none, 0⟩,
   ⟨some 195, .mv (.t 0), none, 0⟩,
   ⟨some 196, .fa 1 (.t 3), none, 0⟩,
   ⟨some 197, .fa 3 (.t 196), none, 4⟩,
   ⟨some 198, .ld 1 false (.t 197), none, 12⟩,
   ⟨some 199, .call (.c (.fn (.func 104) [] [])) [.t 195, .t 198], none, 30⟩,
   ⟨some 200, .fa 25 (.t 3), none, 0⟩,
   ⟨some 201, .ld 1 false (.t 200), none, 64⟩,
   ⟨some 202, .call (.c (.fn (.func 26) [] [])) [.t 194, .t 199, .t 201, .c (.d (.v (.int .u64 2)))], none, 255⟩])
 (.cond 202 (.seq (.reg false [⟨some 203, .ld 33 true (.t 3), none, 0⟩,
     ⟨some 204, .call (.c (.fn (.func 102) [] [])) [.t 203, .c (.d (.v (.bool true)))], none, 0⟩,
     ⟨some 205, .ext 0 (.t 204), none, 0⟩,
     ⟨some 206, .ext 1 (.t 204), none, 0⟩,
     ⟨some 207, .ext 2 (.t 204), none, 0⟩,
     ⟨none, .st 33 (.t 4) (.t 205), none, 0⟩,
     ⟨some 5, .mv (.t 206), none, 0⟩,
     ⟨some 6, .mv (.t 207), none, 0⟩])
   (.ret))
   (.skip)))
 (.reg false [⟨some 208, .fa 0 (.t 3), none, 0⟩,
   ⟨none, .st 1 (.t 208) (.c (.d (.v (.int .i64 36)))), none, 0⟩])
def K62_15 : CC := .cond 209 (.seq (.reg false [⟨some 212, .mv (.t 0), none, 0⟩,
     ⟨some 213, .mv (.t 0), none, 0⟩,
     ⟨some 214, .fa 19 (.t 3), none, 0⟩,
     ⟨some 215, .ld 1 false (.t 214), none, 0⟩,
     ⟨some 216, .bin .sub (.t 215) (.c (.d (.v (.int .i64 1)))), none, 0⟩,
     ⟨some 217, .call (.c (.fn (.func 100) [] [])) [.t 213, .t 216], none, 0⟩,
     ⟨some 218, .call (.c (.fn (.func 22) [] [])) [.t 212, .t 217], none, 0⟩,
     ⟨some 219, .call (.c (.fn (.func 101) [] [])) [.t 218], none, 0⟩,
     ⟨some 211, .mv (.t 219), none, 0⟩,
     ⟨some 220, .ext 0 (.t 211), none, 0⟩,
     ⟨some 221, .ext 1 (.t 211), none, 0⟩,
     ⟨some 222, .ext 2 (.t 211), none, 0⟩,
     ⟨some 18, .mv (.t 220), none, 0⟩,
     ⟨some 19, .mv (.t 221), none, 0⟩,
     ⟨some 20, .mv (.t 222), none, 0⟩])
   (.seq (.reg false [⟨some 223, .ld 33 true (.t 3), none, 0⟩,
     ⟨some 224, .mv (.t 18), none, 0⟩,
     ⟨some 225, .eq .int true (.t 224) (.c (.d (.v (.int .i64 2)))), none, 0⟩,
     ⟨some 226, .call (.c (.fn (.func 102) [] [])) [.t 223, .t 225], none, 0⟩,
     ⟨some 227, .ext 0 (.t 226), none, 0⟩,
     ⟨some 228, .ext 1 (.t 226), none, 0⟩,
     ⟨some 229, .ext 2 (.t 226), none, 0⟩,
     ⟨none, .st 33 (.t 4) (.t 227), none, 0⟩,
     ⟨some 5, .mv (.t 228), none, 0⟩,
     ⟨some 6, .mv (.t 229), none, 0⟩])
   (.ret)))
   (.skip)
def K62_16 : CC := .reg false [⟨some 210, .eq .int false (.t 40) (.c (.d (.v (.int .i64 39)))), none, 0⟩,
   ⟨some 209, .mv (.t 210), none, 0⟩]
def K62_17 : CC := .reg false [⟨some 193, .eq .int false (.t 40) (.c (.d (.v (.int .i64 37)))), none, 0⟩,
   ⟨some 192, .mv (.t 193), none, 0⟩]
def K62_18 : CC := .reg false [⟨some 168, .eq .int false (.t 40) (.c (.d (.v (.int .i64 36)))), none, 0⟩,
   ⟨some 167, .mv (.t 168), none, 0⟩]
def K62_19 : CC := .reg false [⟨some 147, .eq .int false (.t 40) (.c (.d (.v (.int .i64 35)))), none, 0⟩,
   ⟨some 146, .mv (.t 147), none, 0⟩]
def K62_20 : CC := .reg false [⟨some 131, .eq .int false (.t 40) (.c (.d (.v (.int .i64 34)))), none, 0⟩,
   ⟨some 130, .mv (.t 131), none, 0⟩]
def K62_21 : CC := .reg false [⟨some 96, .eq .int false (.t 40) (.c (.d (.v (.int .i64 33)))), none, 0⟩,
   ⟨some 95, .mv (.t 96), none, 0⟩]
def K62_22 : CC := .reg false [⟨some 78, .eq .int false (.t 40) (.c (.d (.v (.int .i64 32)))), none, 0⟩,
   ⟨some 77, .mv (.t 78), none, 0⟩]
def K62_23 : CC := .reg false [⟨some 72, .eq .int false (.t 40) (.c (.d (.v (.int .i64 31)))), none, 0⟩,
   ⟨some 71, .mv (.t 72), none, 0⟩]
def K62_24 : CC := .reg false [⟨some 42, .eq .int false (.t 40) (.c (.d (.v (.int .i64 30)))), none, 0⟩,
   ⟨some 41, .mv (.t 42), none, 0⟩]
def K62_25 : CC := .reg false [⟨some 39, .fa 0 (.t 3), none, 0⟩,
   ⟨some 40, .ld 1 false (.t 39), none, 0⟩]
def K62_26 : CC := .reg false [⟨some 35, .mv (.t 0), none, 0⟩,
   ⟨some 36, .bld [.d (.v (.int .i64 0)), .d (.v (.int .i64 0)), .d (.v (.int .u64 0)), .d (.v (.int .u64 0)), .d (.v (.int .u64 0))] [], none, 0⟩,
   ⟨some 37, .nilc (.t 35), none, 0⟩,
   ⟨some 38, .fa 9 (.t 37), none, 0⟩,
   ⟨none, .st 5 (.t 38) (.t 36), none, 0⟩]
def K62_27 : CC := .seq (.reg false [⟨some 21, .fa 0 (.t 3), none, 0⟩,
   ⟨some 22, .ld 1 false (.t 21), none, 0⟩,
   ⟨some 23, .bin .lss (.t 22) (.c (.d (.v (.int .i64 30)))), none, 0⟩,
   ⟨some 24, .mv (.t 23), none, 0⟩,
   ⟨some 25, .fa 0 (.t 3), some (24, false), 0⟩,
   ⟨some 26, .ld 1 false (.t 25), some (24, false), 0⟩,
   ⟨some 27, .eq .int false (.t 26) (.c (.d (.v (.int .i64 38)))), some (24, false), 0⟩,
   ⟨some 28, .pick (.t 24) (.c (.d (.v (.bool true)))) (.t 27), none, 0⟩,
   ⟨some 29, .mv (.t 28), none, 0⟩,
   ⟨some 30, .fa 0 (.t 3), some (29, false), 0⟩,
   ⟨some 31, .ld 1 false (.t 30), some (29, false), 0⟩,
   ⟨some 32, .bin .gtr (.t 31) (.c (.d (.v (.int .i64 39)))), some (29, false), 0⟩,
   ⟨some 33, .pick (.t 29) (.c (.d (.v (.bool true)))) (.t 32), none, 0⟩])
 (.cond 33 (.seq (.reg false [⟨some 34, .ld 33 true (.t 3), none, 0⟩,
     ⟨none, .st 33 (.t 4) (.t 34), none, 0⟩,
     ⟨some 5, .mv (.c (.d (.v (.int .i64 0)))), none, 0⟩,
     ⟨some 6, .mv (.c (.d (.v (.bool false)))), none, 0⟩])
   (.ret))
   (.skip))
def K62_28 : CC := .reg false [⟨some 3, .box 73 33 (.t 1), none, 0⟩,
   ⟨some 4, .newc 73 [.d (.v (.int .i64 0)), .d (.v (.int .i64 0)), .d (.v (.int .u64 0)), .d (.v (.int .u64 0)), .d (.v (.int .i64 0)), .d (.v (.bool false)), .d (.v (.int .i64 0)), .d (.v (.int .i64 0)), .d (.v (.bool false)), .d (.v (.int .u64 0)), .d (.v (.slice none 0 0)), .d (.v (.int .u64 0)), .d (.v (.slice none 0 0)), .d (.v (.int .u64 0)), .d (.v (.slice none 0 0)), .d (.v (.int .u64 0)), .d (.v (.slice none 0 0)), .d (.v (.slice none 0 0)), .d (.v (.int .i64 0)), .d (.v (.int .i64 0)), .d (.v (.int .i64 0)), .d (.v (.int .i64 0)), .d (.v (.int .i64 0)), .d (.v (.int .u64 0)), .d (.v (.int .u64 0)), .d (.v (.int .u64 0)), .d (.v (.int .u64 0)), .d (.v (.int .u64 0)), .d (.v (.int .i64 0)), .d (.v (.slice none 0 0)), .d (.v (.int .u64 0)), .d (.v (.int .i64 0)), .d (.v (.bool false))], none, 0⟩,
   ⟨some 5, .mv (.c (.d (.v (.int .i64 0)))), none, 0⟩,
   ⟨some 6, .mv (.c (.d (.v (.bool false)))), none, 0⟩]
/-- coatcheck/coatcheckref08.Step -/
def C62 : CF := ⟨2, [(4, some (33, true)), (5, none), (6, none)],
 .seq K62_28 (.seq K62_27 (.seq K62_26 (.seq (.seq K62_25 (.block 0 (.seq K62_24 (.cond 41 (.seq K62_4 (.seq K62_3 K62_2)) (.seq K62_23 (.cond 71 K62_5 (.seq K62_22 (.cond 77 K62_6 (.seq K62_21 (.cond 95 (.seq K62_9 (.seq K62_8 K62_7)) (.seq K62_20 (.cond 130 K62_10 (.seq K62_19 (.cond 146 K62_11 (.seq K62_18 (.cond 167 (.seq K62_13 K62_12) (.seq K62_17 (.cond 192 K62_14 (.seq K62_16 K62_15))))))))))))))))))) K62_1)))⟩
theorem c62 : coF Try.prog Try.f62 = some C62 := by kernel_rfl
def A62 : Ann := { keep := [0, 1, 3, 4, 5, 6, 7, 9, 11, 12, 15, 18, 33, 40, 41, 63, 71, 77, 95, 108, 124, 130, 139, 146, 167, 185, 192, 202, 209], live := [] }
def E62 {Ω : Type} : Env Ω := econs 101 S101c (econs 105 S105c (econs 22 S22m (econs 26 S26m (econs 24 S24m (econs 28 S28m (econs 100 S100 (econs 102 S102 (econs 103 S103c (econs 104 S104 (enil))))))))))
theorem e62 : GoodE Try.prog E62 := GoodE.cons g101c (GoodE.cons g105c (GoodE.cons g22m (GoodE.cons g26m (GoodE.cons g24m (GoodE.cons g28m (GoodE.cons g100 (GoodE.cons g102 (GoodE.cons g103c (GoodE.cons g104 (GoodE.nil))))))))))
end Go.Sx.Pr

/- The steps of one layer, program and document, against the pure model. -/
namespace Go.Sx.Pr
open Go Go.Sx Go.Sx.Md Go.Proofs
set_option maxRecDepth 100000
theorem nBN_any (m : Mm) (x : Wk) (t tw : Nat) (q : Int) :
    sxFn (E62 (Ω := SV × SH)) (An A62 2) C62 [.ptr 0 0, .agg (I q :: encT x)] (objs LN t tw m) (KT 2) =
    br (decide (q < 30)) (some (.tup [.agg (encW { x with line := q }), I 0, B false], (objs LN t tw m))) (br (q == 38) (some (.tup [.agg (encW { x with line := q }), I 0, B false], (objs LN t tw m))) (br (decide (q > 39)) (some (.tup [.agg (encW { x with line := q }), I 0, B false], (objs LN t tw m))) (br (q == 30) (br (uB (wU (mLoadV (m) (adr (Mm.c m) 2 (homeV (Mm.c m) (w64' (Wk.K x - 1)))) + 16))) (br (!wU (mLoadV (m) (adr (Mm.c m) 2 (homeV (Mm.c m) (w64' (Wk.K x - 1)))) + 16) / 16 % 4096 == Cf.c (Mm.c m)) (some (.tup [.agg (encW { x with line := 0, K := 0 }), I 1, B true], (objs LN t tw (mAdd (m) (adr (Mm.c m) 2 (homeV (Mm.c m) (w64' (Wk.K x - 1)))) 16)))) (some (.tup [.agg (encW { x with line := 31 }), I 0, B true], (objs LN t tw (mAdd (m) (adr (Mm.c m) 2 (homeV (Mm.c m) (w64' (Wk.K x - 1)))) 16))))) none) (br (q == 31) (some (.tup [.agg (encW { x with line := 32, V := mLoadV (m) 0 }), I 0, B true], (objs LN t tw (mLoad (m) 0)))) (br (q == 32) (br (uB (Wk.V x)) (some (.tup [.agg (encW { x with line := 0, K := 0 }), I 1, B true], (objs LN t tw (mStore (m) (adr (Mm.c m) 2 (homeV (Mm.c m) (w64' (Wk.K x - 1)))) (pSlab 3 0 (Wk.V x)))))) none) (br (q == 33) (br (uB (mLoadV (m) (adr (Mm.c m) 2 (Wk.J x))) && uB (Wk.E x)) (br (readyV (mLoadV (m) (adr (Mm.c m) 2 (Wk.J x))) (Wk.E x)) (some (.tup [.agg (encW { x with line := 34, V := mLoadV (m) (adr (Mm.c m) 2 (Wk.J x)) }), I 0, B true], (objs LN t tw (mLoad (m) (adr (Mm.c m) 2 (Wk.J x)))))) (br (decide (Wk.J x ≥ IntKind.wrap .i64 (Cf.b (Mm.c m) - 1))) (some (.tup [.agg (encW { x with line := 0, V := mLoadV (m) (adr (Mm.c m) 2 (Wk.J x)), J := IntKind.wrap .i64 (Wk.J x + 1) }), I 2, B true], (objs LN t tw (mLoad (m) (adr (Mm.c m) 2 (Wk.J x)))))) (some (.tup [.agg (encW { x with line := q, V := mLoadV (m) (adr (Mm.c m) 2 (Wk.J x)), J := IntKind.wrap .i64 (Wk.J x + 1) }), I 0, B true], (objs LN t tw (mLoad (m) (adr (Mm.c m) 2 (Wk.J x)))))))) none) (br (q == 34) (br (mCasB (m) (adr (Mm.c m) 2 (Wk.J x)) (Wk.V x)) (some (.tup [.agg (encW { x with line := 0 }), I 1, B true], (objs LN t tw (mCas (m) (adr (Mm.c m) 2 (Wk.J x)) (Wk.V x) 1)))) (some (.tup [.agg (encW { x with line := 33 }), I 0, B true], (objs LN t tw (mCas (m) (adr (Mm.c m) 2 (Wk.J x)) (Wk.V x) 1))))) (br (q == 35) (br (uB (mLoadV (m) (adr (Mm.c m) 2 (homeV (Mm.c m) (w64' (Wk.B x - 1)))))) (br (!mLoadV (m) (adr (Mm.c m) 2 (homeV (Mm.c m) (w64' (Wk.B x - 1)))) % 16 == 2) (some (.tup [.agg (encW { x with line := 0 }), I 1, B true], (objs LN t tw (mLoad (m) (adr (Mm.c m) 2 (homeV (Mm.c m) (w64' (Wk.B x - 1)))))))) (some (.tup [.agg (encW { x with line := 0 }), I 2, B true], (objs LN t tw (mLoad (m) (adr (Mm.c m) 2 (homeV (Mm.c m) (w64' (Wk.B x - 1))))))))) none) (br (q == 36) (br (uB (mLoadV (m) (adr (Mm.c m) 2 (Wk.slab x)))) (br (!mLoadV (m) (adr (Mm.c m) 2 (Wk.slab x)) % 16 == 1) (some (.tup [.agg (encW { x with line := 0, V := mLoadV (m) (adr (Mm.c m) 2 (Wk.slab x)) }), I 2, B true], (objs LN t tw (mLoad (m) (adr (Mm.c m) 2 (Wk.slab x)))))) (some (.tup [.agg (encW { x with line := 37, V := mLoadV (m) (adr (Mm.c m) 2 (Wk.slab x)) }), I 0, B true], (objs LN t tw (mLoad (m) (adr (Mm.c m) 2 (Wk.slab x))))))) none) (br (q == 37) (br (mCasB (m) (adr (Mm.c m) 2 (Wk.slab x)) (Wk.V x)) (some (.tup [.agg (encW { x with line := 0 }), I 1, B true], (objs LN t tw (mCas (m) (adr (Mm.c m) 2 (Wk.slab x)) (Wk.V x) 2)))) (some (.tup [.agg (encW { x with line := 36 }), I 0, B true], (objs LN t tw (mCas (m) (adr (Mm.c m) 2 (Wk.slab x)) (Wk.V x) 2))))) (br (q == 39) (br (uB (mLoadV (m) (adr (Mm.c m) 2 (homeV (Mm.c m) (w64' (Wk.K x - 1)))))) (br (!mLoadV (m) (adr (Mm.c m) 2 (homeV (Mm.c m) (w64' (Wk.K x - 1)))) % 16 == 2) (some (.tup [.agg (encW { x with line := 0 }), I 1, B true], (objs LN t tw (mLoad (m) (adr (Mm.c m) 2 (homeV (Mm.c m) (w64' (Wk.K x - 1)))))))) (some (.tup [.agg (encW { x with line := 0 }), I 2, B true], (objs LN t tw (mLoad (m) (adr (Mm.c m) 2 (homeV (Mm.c m) (w64' (Wk.K x - 1))))))))) none) (some (.tup [.agg (encW { x with line := q }), I 0, B true], (objs LN t tw (mClear m))))))))))))))) := by kernel_rfl
theorem nBP_36 (m : Mm) (x : Wk) (t tw : Nat) :
    sxFn (E61 (Ω := SV × SH)) (An A61 2) C61 [.ptr 0 0, .agg (I 36 :: encT x)] (objs LM t tw m) (KT 2) =
    br (uB (mLoadV (mClear (m)) (adr (Mm.c m) 2 (Wk.slab x)))) (br (!mLoadV (mClear (m)) (adr (Mm.c m) 2 (Wk.slab x)) % 16 == 1) (some (.tup [.agg (encW { x with line := 0, V := mLoadV (mClear (m)) (adr (Mm.c m) 2 (Wk.slab x)) }), I 2, B true], (objs LM t tw (mLoad (mClear (m)) (adr (Mm.c m) 2 (Wk.slab x)))))) (some (.tup [.agg (encW { x with line := 37, V := mLoadV (mClear (m)) (adr (Mm.c m) 2 (Wk.slab x)) }), I 0, B true], (objs LM t tw (mLoad (mClear (m)) (adr (Mm.c m) 2 (Wk.slab x))))))) none := by kernel_rfl
theorem nBN_35 (m : Mm) (x : Wk) (t tw : Nat) :
    sxFn (E62 (Ω := SV × SH)) (An A62 2) C62 [.ptr 0 0, .agg (I 35 :: encT x)] (objs LN t tw m) (KT 2) =
    br (uB (mLoadV (m) (adr (Mm.c m) 2 (homeV (Mm.c m) (w64' (Wk.B x - 1)))))) (br (!mLoadV (m) (adr (Mm.c m) 2 (homeV (Mm.c m) (w64' (Wk.B x - 1)))) % 16 == 2) (some (.tup [.agg (encW { x with line := 0 }), I 1, B true], (objs LN t tw (mLoad (m) (adr (Mm.c m) 2 (homeV (Mm.c m) (w64' (Wk.B x - 1)))))))) (some (.tup [.agg (encW { x with line := 0 }), I 2, B true], (objs LN t tw (mLoad (m) (adr (Mm.c m) 2 (homeV (Mm.c m) (w64' (Wk.B x - 1))))))))) none := by kernel_rfl

theorem nBP_any (m : Mm) (x : Wk) (t tw : Nat) (q : Int) :
    sxFn (E61 (Ω := SV × SH)) (An A61 2) C61 [.ptr 0 0, .agg (I q :: encT x)] (objs LM t tw m) (KT 2) =
    br (decide (q < 30)) (some (.tup [.agg (encW { x with line := q }), I 0, B false], (objs LM t tw m))) (br (decide (q > 39)) (some (.tup [.agg (encW { x with line := q }), I 0, B false], (objs LM t tw m))) (br (q == 38) (some (.tup [.agg (encW { x with line := q }), I 0, B false], (objs LM t tw m))) (br (q == 30) (br (uB (wU (mAddV (mClear (m)) (adr (Mm.c m) 2 (homeV (Mm.c m) (w64' (Wk.K x - 1)))) 16 + 16))) (br (wU (mAddV (mClear (m)) (adr (Mm.c m) 2 (homeV (Mm.c m) (w64' (Wk.K x - 1)))) 16 + 16) / 16 % 4096 == Cf.c (Mm.c m)) (some (.tup [.agg (encW { x with line := 31 }), I 0, B true], (objs LM t tw (mAdd (mClear (m)) (adr (Mm.c m) 2 (homeV (Mm.c m) (w64' (Wk.K x - 1)))) 16)))) (some (.tup [.agg (encW { x with line := 0, K := 0 }), I 1, B true], (objs LM t tw (mAdd (mClear (m)) (adr (Mm.c m) 2 (homeV (Mm.c m) (w64' (Wk.K x - 1)))) 16))))) none) (br (q == 31) (some (.tup [.agg (encW { x with line := 32, V := mLoadV (mClear (m)) 0 }), I 0, B true], (objs LM t tw (mLoad (mClear (m)) 0)))) (br (q == 32) (br (uB (Wk.V x)) (some (.tup [.agg (encW { x with line := 0, K := 0 }), I 1, B true], (objs LM t tw (mStore (mClear (m)) (adr (Mm.c m) 2 (homeV (Mm.c m) (w64' (Wk.K x - 1)))) (pSlab 3 0 (Wk.V x)))))) none) (br (q == 33) (br (uB (mLoadV (mClear (m)) (adr (Mm.c m) 2 (Wk.J x))) && uB (Wk.E x)) (br (readyV (mLoadV (mClear (m)) (adr (Mm.c m) 2 (Wk.J x))) (Wk.E x)) (some (.tup [.agg (encW { x with line := 34, V := mLoadV (mClear (m)) (adr (Mm.c m) 2 (Wk.J x)) }), I 0, B true], (objs LM t tw (mLoad (mClear (m)) (adr (Mm.c m) 2 (Wk.J x)))))) (br (decide (Wk.J x ≥ IntKind.wrap .i64 (Cf.b (Mm.c m) - 1))) (some (.tup [.agg (encW { x with line := 0, V := mLoadV (mClear (m)) (adr (Mm.c m) 2 (Wk.J x)), J := IntKind.wrap .i64 (Wk.J x + 1) }), I 2, B true], (objs LM t tw (mLoad (mClear (m)) (adr (Mm.c m) 2 (Wk.J x)))))) (some (.tup [.agg (encW { x with line := q, V := mLoadV (mClear (m)) (adr (Mm.c m) 2 (Wk.J x)), J := IntKind.wrap .i64 (Wk.J x + 1) }), I 0, B true], (objs LM t tw (mLoad (mClear (m)) (adr (Mm.c m) 2 (Wk.J x)))))))) none) (br (q == 34) (br (mCasB (mClear (m)) (adr (Mm.c m) 2 (Wk.J x)) (Wk.V x)) (some (.tup [.agg (encW { x with line := 0 }), I 1, B true], (objs LM t tw (mCas (mClear (m)) (adr (Mm.c m) 2 (Wk.J x)) (Wk.V x) 1)))) (some (.tup [.agg (encW { x with line := 33 }), I 0, B true], (objs LM t tw (mCas (mClear (m)) (adr (Mm.c m) 2 (Wk.J x)) (Wk.V x) 1))))) (br (q == 36) (br (uB (mLoadV (mClear (m)) (adr (Mm.c m) 2 (Wk.slab x)))) (br (!mLoadV (mClear (m)) (adr (Mm.c m) 2 (Wk.slab x)) % 16 == 1) (some (.tup [.agg (encW { x with line := 0, V := mLoadV (mClear (m)) (adr (Mm.c m) 2 (Wk.slab x)) }), I 2, B true], (objs LM t tw (mLoad (mClear (m)) (adr (Mm.c m) 2 (Wk.slab x)))))) (some (.tup [.agg (encW { x with line := 37, V := mLoadV (mClear (m)) (adr (Mm.c m) 2 (Wk.slab x)) }), I 0, B true], (objs LM t tw (mLoad (mClear (m)) (adr (Mm.c m) 2 (Wk.slab x))))))) none) (br (q == 37) (br (mCasB (mClear (m)) (adr (Mm.c m) 2 (Wk.slab x)) (Wk.V x)) (some (.tup [.agg (encW { x with line := 0 }), I 1, B true], (objs LM t tw (mCas (mClear (m)) (adr (Mm.c m) 2 (Wk.slab x)) (Wk.V x) 2)))) (some (.tup [.agg (encW { x with line := 36 }), I 0, B true], (objs LM t tw (mCas (mClear (m)) (adr (Mm.c m) 2 (Wk.slab x)) (Wk.V x) 2))))) (br (q == 35) (br (uB (mLoadV (mClear (m)) (adr (Mm.c m) 2 (homeV (Mm.c m) (w64' (Wk.B x - 1)))))) (br (!mLoadV (mClear (m)) (adr (Mm.c m) 2 (homeV (Mm.c m) (w64' (Wk.B x - 1)))) % 16 == 2) (some (.tup [.agg (encW { x with line := 0 }), I 1, B true], (objs LM t tw (mLoad (mClear (m)) (adr (Mm.c m) 2 (homeV (Mm.c m) (w64' (Wk.B x - 1)))))))) (some (.tup [.agg (encW { x with line := 0 }), I 2, B true], (objs LM t tw (mLoad (mClear (m)) (adr (Mm.c m) 2 (homeV (Mm.c m) (w64' (Wk.B x - 1))))))))) none) (br (uB (mLoadV (mClear (m)) (adr (Mm.c m) 2 (homeV (Mm.c m) (w64' (Wk.K x - 1)))))) (br (!mLoadV (mClear (m)) (adr (Mm.c m) 2 (homeV (Mm.c m) (w64' (Wk.K x - 1)))) % 16 == 2) (some (.tup [.agg (encW { x with line := 0 }), I 1, B true], (objs LM t tw (mLoad (mClear (m)) (adr (Mm.c m) 2 (homeV (Mm.c m) (w64' (Wk.K x - 1)))))))) (some (.tup [.agg (encW { x with line := 0 }), I 2, B true], (objs LM t tw (mLoad (mClear (m)) (adr (Mm.c m) 2 (homeV (Mm.c m) (w64' (Wk.K x - 1))))))))) none))))))))))) := by kernel_rfl
theorem nBP_37 (m : Mm) (x : Wk) (t tw : Nat) :
    sxFn (E61 (Ω := SV × SH)) (An A61 2) C61 [.ptr 0 0, .agg (I 37 :: encT x)] (objs LM t tw m) (KT 2) =
    br (mCasB (mClear (m)) (adr (Mm.c m) 2 (Wk.slab x)) (Wk.V x)) (some (.tup [.agg (encW { x with line := 0 }), I 1, B true], (objs LM t tw (mCas (mClear (m)) (adr (Mm.c m) 2 (Wk.slab x)) (Wk.V x) 2)))) (some (.tup [.agg (encW { x with line := 36 }), I 0, B true], (objs LM t tw (mCas (mClear (m)) (adr (Mm.c m) 2 (Wk.slab x)) (Wk.V x) 2)))) := by kernel_rfl
theorem nBN_36 (m : Mm) (x : Wk) (t tw : Nat) :
    sxFn (E62 (Ω := SV × SH)) (An A62 2) C62 [.ptr 0 0, .agg (I 36 :: encT x)] (objs LN t tw m) (KT 2) =
    br (uB (mLoadV (m) (adr (Mm.c m) 2 (Wk.slab x)))) (br (!mLoadV (m) (adr (Mm.c m) 2 (Wk.slab x)) % 16 == 1) (some (.tup [.agg (encW { x with line := 0, V := mLoadV (m) (adr (Mm.c m) 2 (Wk.slab x)) }), I 2, B true], (objs LN t tw (mLoad (m) (adr (Mm.c m) 2 (Wk.slab x)))))) (some (.tup [.agg (encW { x with line := 37, V := mLoadV (m) (adr (Mm.c m) 2 (Wk.slab x)) }), I 0, B true], (objs LN t tw (mLoad (m) (adr (Mm.c m) 2 (Wk.slab x))))))) none := by kernel_rfl

theorem nBP_30 (m : Mm) (x : Wk) (t tw : Nat) :
    sxFn (E61 (Ω := SV × SH)) (An A61 2) C61 [.ptr 0 0, .agg (I 30 :: encT x)] (objs LM t tw m) (KT 2) =
    br (uB (wU (mAddV (mClear (m)) (adr (Mm.c m) 2 (homeV (Mm.c m) (w64' (Wk.K x - 1)))) 16 + 16))) (br (wU (mAddV (mClear (m)) (adr (Mm.c m) 2 (homeV (Mm.c m) (w64' (Wk.K x - 1)))) 16 + 16) / 16 % 4096 == Cf.c (Mm.c m)) (some (.tup [.agg (encW { x with line := 31 }), I 0, B true], (objs LM t tw (mAdd (mClear (m)) (adr (Mm.c m) 2 (homeV (Mm.c m) (w64' (Wk.K x - 1)))) 16)))) (some (.tup [.agg (encW { x with line := 0, K := 0 }), I 1, B true], (objs LM t tw (mAdd (mClear (m)) (adr (Mm.c m) 2 (homeV (Mm.c m) (w64' (Wk.K x - 1)))) 16))))) none := by kernel_rfl
theorem nBP_39 (m : Mm) (x : Wk) (t tw : Nat) :
    sxFn (E61 (Ω := SV × SH)) (An A61 2) C61 [.ptr 0 0, .agg (I 39 :: encT x)] (objs LM t tw m) (KT 2) =
    br (uB (mLoadV (mClear (m)) (adr (Mm.c m) 2 (homeV (Mm.c m) (w64' (Wk.K x - 1)))))) (br (!mLoadV (mClear (m)) (adr (Mm.c m) 2 (homeV (Mm.c m) (w64' (Wk.K x - 1)))) % 16 == 2) (some (.tup [.agg (encW { x with line := 0 }), I 1, B true], (objs LM t tw (mLoad (mClear (m)) (adr (Mm.c m) 2 (homeV (Mm.c m) (w64' (Wk.K x - 1)))))))) (some (.tup [.agg (encW { x with line := 0 }), I 2, B true], (objs LM t tw (mLoad (mClear (m)) (adr (Mm.c m) 2 (homeV (Mm.c m) (w64' (Wk.K x - 1))))))))) none := by kernel_rfl
theorem nBN_37 (m : Mm) (x : Wk) (t tw : Nat) :
    sxFn (E62 (Ω := SV × SH)) (An A62 2) C62 [.ptr 0 0, .agg (I 37 :: encT x)] (objs LN t tw m) (KT 2) =
    br (mCasB (m) (adr (Mm.c m) 2 (Wk.slab x)) (Wk.V x)) (some (.tup [.agg (encW { x with line := 0 }), I 1, B true], (objs LN t tw (mCas (m) (adr (Mm.c m) 2 (Wk.slab x)) (Wk.V x) 2)))) (some (.tup [.agg (encW { x with line := 36 }), I 0, B true], (objs LN t tw (mCas (m) (adr (Mm.c m) 2 (Wk.slab x)) (Wk.V x) 2)))) := by kernel_rfl

theorem nBP_31 (m : Mm) (x : Wk) (t tw : Nat) :
    sxFn (E61 (Ω := SV × SH)) (An A61 2) C61 [.ptr 0 0, .agg (I 31 :: encT x)] (objs LM t tw m) (KT 2) =
    some (.tup [.agg (encW { x with line := 32, V := mLoadV (mClear (m)) 0 }), I 0, B true], (objs LM t tw (mLoad (mClear (m)) 0))) := by kernel_rfl
theorem nBN_30 (m : Mm) (x : Wk) (t tw : Nat) :
    sxFn (E62 (Ω := SV × SH)) (An A62 2) C62 [.ptr 0 0, .agg (I 30 :: encT x)] (objs LN t tw m) (KT 2) =
    br (uB (wU (mLoadV (m) (adr (Mm.c m) 2 (homeV (Mm.c m) (w64' (Wk.K x - 1)))) + 16))) (br (!wU (mLoadV (m) (adr (Mm.c m) 2 (homeV (Mm.c m) (w64' (Wk.K x - 1)))) + 16) / 16 % 4096 == Cf.c (Mm.c m)) (some (.tup [.agg (encW { x with line := 0, K := 0 }), I 1, B true], (objs LN t tw (mAdd (m) (adr (Mm.c m) 2 (homeV (Mm.c m) (w64' (Wk.K x - 1)))) 16)))) (some (.tup [.agg (encW { x with line := 31 }), I 0, B true], (objs LN t tw (mAdd (m) (adr (Mm.c m) 2 (homeV (Mm.c m) (w64' (Wk.K x - 1)))) 16))))) none := by kernel_rfl
theorem nBN_39 (m : Mm) (x : Wk) (t tw : Nat) :
    sxFn (E62 (Ω := SV × SH)) (An A62 2) C62 [.ptr 0 0, .agg (I 39 :: encT x)] (objs LN t tw m) (KT 2) =
    br (uB (mLoadV (m) (adr (Mm.c m) 2 (homeV (Mm.c m) (w64' (Wk.K x - 1)))))) (br (!mLoadV (m) (adr (Mm.c m) 2 (homeV (Mm.c m) (w64' (Wk.K x - 1)))) % 16 == 2) (some (.tup [.agg (encW { x with line := 0 }), I 1, B true], (objs LN t tw (mLoad (m) (adr (Mm.c m) 2 (homeV (Mm.c m) (w64' (Wk.K x - 1)))))))) (some (.tup [.agg (encW { x with line := 0 }), I 2, B true], (objs LN t tw (mLoad (m) (adr (Mm.c m) 2 (homeV (Mm.c m) (w64' (Wk.K x - 1))))))))) none := by kernel_rfl

theorem nBP_32 (m : Mm) (x : Wk) (t tw : Nat) :
    sxFn (E61 (Ω := SV × SH)) (An A61 2) C61 [.ptr 0 0, .agg (I 32 :: encT x)] (objs LM t tw m) (KT 2) =
    br (uB (Wk.V x)) (some (.tup [.agg (encW { x with line := 0, K := 0 }), I 1, B true], (objs LM t tw (mStore (mClear (m)) (adr (Mm.c m) 2 (homeV (Mm.c m) (w64' (Wk.K x - 1)))) (pSlab 3 0 (Wk.V x)))))) none := by kernel_rfl
theorem nBN_31 (m : Mm) (x : Wk) (t tw : Nat) :
    sxFn (E62 (Ω := SV × SH)) (An A62 2) C62 [.ptr 0 0, .agg (I 31 :: encT x)] (objs LN t tw m) (KT 2) =
    some (.tup [.agg (encW { x with line := 32, V := mLoadV (m) 0 }), I 0, B true], (objs LN t tw (mLoad (m) 0))) := by kernel_rfl

theorem nBP_33 (m : Mm) (x : Wk) (t tw : Nat) :
    sxFn (E61 (Ω := SV × SH)) (An A61 2) C61 [.ptr 0 0, .agg (I 33 :: encT x)] (objs LM t tw m) (KT 2) =
    br (uB (mLoadV (mClear (m)) (adr (Mm.c m) 2 (Wk.J x))) && uB (Wk.E x)) (br (readyV (mLoadV (mClear (m)) (adr (Mm.c m) 2 (Wk.J x))) (Wk.E x)) (some (.tup [.agg (encW { x with line := 34, V := mLoadV (mClear (m)) (adr (Mm.c m) 2 (Wk.J x)) }), I 0, B true], (objs LM t tw (mLoad (mClear (m)) (adr (Mm.c m) 2 (Wk.J x)))))) (br (decide (Wk.J x ≥ IntKind.wrap .i64 (Cf.b (Mm.c m) - 1))) (some (.tup [.agg (encW { x with line := 0, V := mLoadV (mClear (m)) (adr (Mm.c m) 2 (Wk.J x)), J := IntKind.wrap .i64 (Wk.J x + 1) }), I 2, B true], (objs LM t tw (mLoad (mClear (m)) (adr (Mm.c m) 2 (Wk.J x)))))) (some (.tup [.agg (encW { x with line := 33, V := mLoadV (mClear (m)) (adr (Mm.c m) 2 (Wk.J x)), J := IntKind.wrap .i64 (Wk.J x + 1) }), I 0, B true], (objs LM t tw (mLoad (mClear (m)) (adr (Mm.c m) 2 (Wk.J x)))))))) none := by kernel_rfl
theorem nBN_32 (m : Mm) (x : Wk) (t tw : Nat) :
    sxFn (E62 (Ω := SV × SH)) (An A62 2) C62 [.ptr 0 0, .agg (I 32 :: encT x)] (objs LN t tw m) (KT 2) =
    br (uB (Wk.V x)) (some (.tup [.agg (encW { x with line := 0, K := 0 }), I 1, B true], (objs LN t tw (mStore (m) (adr (Mm.c m) 2 (homeV (Mm.c m) (w64' (Wk.K x - 1)))) (pSlab 3 0 (Wk.V x)))))) none := by kernel_rfl

theorem nBP_34 (m : Mm) (x : Wk) (t tw : Nat) :
    sxFn (E61 (Ω := SV × SH)) (An A61 2) C61 [.ptr 0 0, .agg (I 34 :: encT x)] (objs LM t tw m) (KT 2) =
    br (mCasB (mClear (m)) (adr (Mm.c m) 2 (Wk.J x)) (Wk.V x)) (some (.tup [.agg (encW { x with line := 0 }), I 1, B true], (objs LM t tw (mCas (mClear (m)) (adr (Mm.c m) 2 (Wk.J x)) (Wk.V x) 1)))) (some (.tup [.agg (encW { x with line := 33 }), I 0, B true], (objs LM t tw (mCas (mClear (m)) (adr (Mm.c m) 2 (Wk.J x)) (Wk.V x) 1)))) := by kernel_rfl
theorem nBN_33 (m : Mm) (x : Wk) (t tw : Nat) :
    sxFn (E62 (Ω := SV × SH)) (An A62 2) C62 [.ptr 0 0, .agg (I 33 :: encT x)] (objs LN t tw m) (KT 2) =
    br (uB (mLoadV (m) (adr (Mm.c m) 2 (Wk.J x))) && uB (Wk.E x)) (br (readyV (mLoadV (m) (adr (Mm.c m) 2 (Wk.J x))) (Wk.E x)) (some (.tup [.agg (encW { x with line := 34, V := mLoadV (m) (adr (Mm.c m) 2 (Wk.J x)) }), I 0, B true], (objs LN t tw (mLoad (m) (adr (Mm.c m) 2 (Wk.J x)))))) (br (decide (Wk.J x ≥ IntKind.wrap .i64 (Cf.b (Mm.c m) - 1))) (some (.tup [.agg (encW { x with line := 0, V := mLoadV (m) (adr (Mm.c m) 2 (Wk.J x)), J := IntKind.wrap .i64 (Wk.J x + 1) }), I 2, B true], (objs LN t tw (mLoad (m) (adr (Mm.c m) 2 (Wk.J x)))))) (some (.tup [.agg (encW { x with line := 33, V := mLoadV (m) (adr (Mm.c m) 2 (Wk.J x)), J := IntKind.wrap .i64 (Wk.J x + 1) }), I 0, B true], (objs LN t tw (mLoad (m) (adr (Mm.c m) 2 (Wk.J x)))))))) none := by kernel_rfl

theorem nBP_35 (m : Mm) (x : Wk) (t tw : Nat) :
    sxFn (E61 (Ω := SV × SH)) (An A61 2) C61 [.ptr 0 0, .agg (I 35 :: encT x)] (objs LM t tw m) (KT 2) =
    br (uB (mLoadV (mClear (m)) (adr (Mm.c m) 2 (homeV (Mm.c m) (w64' (Wk.B x - 1)))))) (br (!mLoadV (mClear (m)) (adr (Mm.c m) 2 (homeV (Mm.c m) (w64' (Wk.B x - 1)))) % 16 == 2) (some (.tup [.agg (encW { x with line := 0 }), I 1, B true], (objs LM t tw (mLoad (mClear (m)) (adr (Mm.c m) 2 (homeV (Mm.c m) (w64' (Wk.B x - 1)))))))) (some (.tup [.agg (encW { x with line := 0 }), I 2, B true], (objs LM t tw (mLoad (mClear (m)) (adr (Mm.c m) 2 (homeV (Mm.c m) (w64' (Wk.B x - 1))))))))) none := by kernel_rfl
theorem nBN_34 (m : Mm) (x : Wk) (t tw : Nat) :
    sxFn (E62 (Ω := SV × SH)) (An A62 2) C62 [.ptr 0 0, .agg (I 34 :: encT x)] (objs LN t tw m) (KT 2) =
    br (mCasB (m) (adr (Mm.c m) 2 (Wk.J x)) (Wk.V x)) (some (.tup [.agg (encW { x with line := 0 }), I 1, B true], (objs LN t tw (mCas (m) (adr (Mm.c m) 2 (Wk.J x)) (Wk.V x) 1)))) (some (.tup [.agg (encW { x with line := 33 }), I 0, B true], (objs LN t tw (mCas (m) (adr (Mm.c m) 2 (Wk.J x)) (Wk.V x) 1)))) := by kernel_rfl

theorem br_sameB {α : Type} {c : Bool} {x : α} : br c x x = x := by cases c <;> rfl
abbrev OBP (q : Int) : Prop := ∀ (m : Mm) (x : Wk) (t tw : TypeId), sxFn (E61 (Ω := SV × SH)) (An A61 2) C61 [.ptr 0 0, .agg (I q :: encT x)] (objs LM t tw m) (KT 2) = some (.tup [.agg (I q :: encT x), I 0, B false], objs LM t tw m)
theorem oBP_neg (n : Nat) : OBP (Int.negSucc n) := fun m x t tw => by
  have hq : Int.negSucc n < 0 := Int.negSucc_lt_zero n
  generalize (Int.negSucc n : Int) = q at hq ⊢
  rw [nBP_any]
  simp only [decide_eq_true (show q < 30 by omega), decide_eq_false (show ¬ q > 39 by omega), br_t, br_f]
  all_goals rfl
theorem oBP_top (n : Nat) : OBP (Int.ofNat (n + 40)) := fun m x t tw => by
  have hq : Int.ofNat (n + 40) ≥ 40 := by simp only [ge_iff_le, Int.ofNat_eq_natCast]; omega
  generalize (Int.ofNat (n + 40) : Int) = q at hq ⊢
  rw [nBP_any]
  simp only [decide_eq_false (show ¬ q < 30 by omega), decide_eq_true (show q > 39 by omega), br_t, br_sameB]
  all_goals rfl
theorem oBP_0 : OBP (Int.ofNat 0) := fun m x t tw => by kernel_rfl
theorem oBP_1 : OBP (Int.ofNat 1) := fun m x t tw => by kernel_rfl
theorem oBP_2 : OBP (Int.ofNat 2) := fun m x t tw => by kernel_rfl
theorem oBP_3 : OBP (Int.ofNat 3) := fun m x t tw => by kernel_rfl
theorem oBP_4 : OBP (Int.ofNat 4) := fun m x t tw => by kernel_rfl
theorem oBP_5 : OBP (Int.ofNat 5) := fun m x t tw => by kernel_rfl
theorem oBP_6 : OBP (Int.ofNat 6) := fun m x t tw => by kernel_rfl
theorem oBP_7 : OBP (Int.ofNat 7) := fun m x t tw => by kernel_rfl
theorem oBP_8 : OBP (Int.ofNat 8) := fun m x t tw => by kernel_rfl
theorem oBP_9 : OBP (Int.ofNat 9) := fun m x t tw => by kernel_rfl
theorem oBP_10 : OBP (Int.ofNat 10) := fun m x t tw => by kernel_rfl
theorem oBP_11 : OBP (Int.ofNat 11) := fun m x t tw => by kernel_rfl
theorem oBP_12 : OBP (Int.ofNat 12) := fun m x t tw => by kernel_rfl
theorem oBP_13 : OBP (Int.ofNat 13) := fun m x t tw => by kernel_rfl
theorem oBP_14 : OBP (Int.ofNat 14) := fun m x t tw => by kernel_rfl
theorem oBP_15 : OBP (Int.ofNat 15) := fun m x t tw => by kernel_rfl
theorem oBP_16 : OBP (Int.ofNat 16) := fun m x t tw => by kernel_rfl
theorem oBP_17 : OBP (Int.ofNat 17) := fun m x t tw => by kernel_rfl
theorem oBP_18 : OBP (Int.ofNat 18) := fun m x t tw => by kernel_rfl
theorem oBP_19 : OBP (Int.ofNat 19) := fun m x t tw => by kernel_rfl
theorem oBP_20 : OBP (Int.ofNat 20) := fun m x t tw => by kernel_rfl
theorem oBP_21 : OBP (Int.ofNat 21) := fun m x t tw => by kernel_rfl
theorem oBP_22 : OBP (Int.ofNat 22) := fun m x t tw => by kernel_rfl
theorem oBP_23 : OBP (Int.ofNat 23) := fun m x t tw => by kernel_rfl
theorem oBP_24 : OBP (Int.ofNat 24) := fun m x t tw => by kernel_rfl
theorem oBP_25 : OBP (Int.ofNat 25) := fun m x t tw => by kernel_rfl
theorem oBP_26 : OBP (Int.ofNat 26) := fun m x t tw => by kernel_rfl
theorem oBP_27 : OBP (Int.ofNat 27) := fun m x t tw => by kernel_rfl
theorem oBP_28 : OBP (Int.ofNat 28) := fun m x t tw => by kernel_rfl
theorem oBP_29 : OBP (Int.ofNat 29) := fun m x t tw => by kernel_rfl
theorem oBP_38 : OBP (Int.ofNat 38) := fun m x t tw => by kernel_rfl
abbrev OBN (q : Int) : Prop := ∀ (m : Mm) (x : Wk) (t tw : TypeId), sxFn (E62 (Ω := SV × SH)) (An A62 2) C62 [.ptr 0 0, .agg (I q :: encT x)] (objs LN t tw m) (KT 2) = some (.tup [.agg (I q :: encT x), I 0, B false], objs LN t tw m)
theorem oBN_neg (n : Nat) : OBN (Int.negSucc n) := fun m x t tw => by
  have hq : Int.negSucc n < 0 := Int.negSucc_lt_zero n
  generalize (Int.negSucc n : Int) = q at hq ⊢
  rw [nBN_any]
  simp only [decide_eq_true (show q < 30 by omega), decide_eq_false (show ¬ q > 39 by omega), br_t, br_f]
  all_goals rfl
theorem oBN_top (n : Nat) : OBN (Int.ofNat (n + 40)) := fun m x t tw => by
  have hq : Int.ofNat (n + 40) ≥ 40 := by simp only [ge_iff_le, Int.ofNat_eq_natCast]; omega
  generalize (Int.ofNat (n + 40) : Int) = q at hq ⊢
  rw [nBN_any]
  simp only [decide_eq_false (show ¬ q < 30 by omega), decide_eq_true (show q > 39 by omega), br_t, br_sameB]
  all_goals rfl
theorem oBN_0 : OBN (Int.ofNat 0) := fun m x t tw => by kernel_rfl
theorem oBN_1 : OBN (Int.ofNat 1) := fun m x t tw => by kernel_rfl
theorem oBN_2 : OBN (Int.ofNat 2) := fun m x t tw => by kernel_rfl
theorem oBN_3 : OBN (Int.ofNat 3) := fun m x t tw => by kernel_rfl
theorem oBN_4 : OBN (Int.ofNat 4) := fun m x t tw => by kernel_rfl
theorem oBN_5 : OBN (Int.ofNat 5) := fun m x t tw => by kernel_rfl
theorem oBN_6 : OBN (Int.ofNat 6) := fun m x t tw => by kernel_rfl
theorem oBN_7 : OBN (Int.ofNat 7) := fun m x t tw => by kernel_rfl
theorem oBN_8 : OBN (Int.ofNat 8) := fun m x t tw => by kernel_rfl
theorem oBN_9 : OBN (Int.ofNat 9) := fun m x t tw => by kernel_rfl
theorem oBN_10 : OBN (Int.ofNat 10) := fun m x t tw => by kernel_rfl
theorem oBN_11 : OBN (Int.ofNat 11) := fun m x t tw => by kernel_rfl
theorem oBN_12 : OBN (Int.ofNat 12) := fun m x t tw => by kernel_rfl
theorem oBN_13 : OBN (Int.ofNat 13) := fun m x t tw => by kernel_rfl
theorem oBN_14 : OBN (Int.ofNat 14) := fun m x t tw => by kernel_rfl
theorem oBN_15 : OBN (Int.ofNat 15) := fun m x t tw => by kernel_rfl
theorem oBN_16 : OBN (Int.ofNat 16) := fun m x t tw => by kernel_rfl
theorem oBN_17 : OBN (Int.ofNat 17) := fun m x t tw => by kernel_rfl
theorem oBN_18 : OBN (Int.ofNat 18) := fun m x t tw => by kernel_rfl
theorem oBN_19 : OBN (Int.ofNat 19) := fun m x t tw => by kernel_rfl
theorem oBN_20 : OBN (Int.ofNat 20) := fun m x t tw => by kernel_rfl
theorem oBN_21 : OBN (Int.ofNat 21) := fun m x t tw => by kernel_rfl
theorem oBN_22 : OBN (Int.ofNat 22) := fun m x t tw => by kernel_rfl
theorem oBN_23 : OBN (Int.ofNat 23) := fun m x t tw => by kernel_rfl
theorem oBN_24 : OBN (Int.ofNat 24) := fun m x t tw => by kernel_rfl
theorem oBN_25 : OBN (Int.ofNat 25) := fun m x t tw => by kernel_rfl
theorem oBN_26 : OBN (Int.ofNat 26) := fun m x t tw => by kernel_rfl
theorem oBN_27 : OBN (Int.ofNat 27) := fun m x t tw => by kernel_rfl
theorem oBN_28 : OBN (Int.ofNat 28) := fun m x t tw => by kernel_rfl
theorem oBN_29 : OBN (Int.ofNat 29) := fun m x t tw => by kernel_rfl
theorem oBN_38 : OBN (Int.ofNat 38) := fun m x t tw => by kernel_rfl
theorem mB_no {m : Mm} {x : Wk} (h : x.line ≠ 30 ∧ x.line ≠ 31 ∧ x.line ≠ 32 ∧ x.line ≠ 33 ∧ x.line ≠ 34 ∧ x.line ≠ 35 ∧ x.line ≠ 36 ∧ x.line ≠ 37 ∧ x.line ≠ 39) : stepB m x = ⟨m, x, 0, false⟩ := by
  simp only [stepB, h, ↓reduceIte]
theorem vBP_30 {m : Mm} {x : Wk} {t tw : TypeId} (hm : okM m = true) (hx : okW x = true) : sxFn (E61 (Ω := SV × SH)) (An A61 2) C61 [.ptr 0 0, .agg (I 30 :: encT x)] (objs LM t tw m) (KT 2) = some (.tup [.agg (encW (stepB m { x with line := 30 }).x), I (stepB m { x with line := 30 }).way, B (stepB m { x with line := 30 }).ok], objs LM t tw (stepB m { x with line := 30 }).m) := by
  obtain ⟨b1, b2, b3, b4, b5, b6, b7, b8, b9, b10, b11, b12⟩ := okW_all hx
  have hu := okM_u hm
  rw [nBP_30]
  try simp only [clrA, clrAV, br_t, mAddV_eq hu, uB_wrap, adrH_fold]
  simp only [stepB, ↓reduceIte]
  cases h0 : (wU (mLoadV m (adrH m.c x.K) + 16) / 16 % 4096 == m.c.c) <;> simp only [br_t, br_f, cond_true, cond_false] <;> first | rfl | (rw [eq_of_beq h0]; done) | (rw [eq_of_beq h0]; rfl)
theorem vBP_31 {m : Mm} {x : Wk} {t tw : TypeId} (hm : okM m = true) (hx : okW x = true) : sxFn (E61 (Ω := SV × SH)) (An A61 2) C61 [.ptr 0 0, .agg (I 31 :: encT x)] (objs LM t tw m) (KT 2) = some (.tup [.agg (encW (stepB m { x with line := 31 }).x), I (stepB m { x with line := 31 }).way, B (stepB m { x with line := 31 }).ok], objs LM t tw (stepB m { x with line := 31 }).m) := by
  obtain ⟨b1, b2, b3, b4, b5, b6, b7, b8, b9, b10, b11, b12⟩ := okW_all hx
  have hu := okM_u hm
  rw [nBP_31]
  try simp only [clrV, clrL]
  simp only [stepB, Int.reduceEq, ↓reduceIte]
  all_goals rfl
theorem vBP_32 {m : Mm} {x : Wk} {t tw : TypeId} (hm : okM m = true) (hx : okW x = true) : sxFn (E61 (Ω := SV × SH)) (An A61 2) C61 [.ptr 0 0, .agg (I 32 :: encT x)] (objs LM t tw m) (KT 2) = some (.tup [.agg (encW (stepB m { x with line := 32 }).x), I (stepB m { x with line := 32 }).way, B (stepB m { x with line := 32 }).ok], objs LM t tw (stepB m { x with line := 32 }).m) := by
  obtain ⟨b1, b2, b3, b4, b5, b6, b7, b8, b9, b10, b11, b12⟩ := okW_all hx
  have hu := okM_u hm
  rw [nBP_32]
  try simp only [clrS, b9, br_t, adrH_fold]
  simp only [stepB, Int.reduceEq, ↓reduceIte]
  all_goals rfl
theorem vBP_33 {m : Mm} {x : Wk} {t tw : TypeId} (hm : okM m = true) (hx : okW x = true) : sxFn (E61 (Ω := SV × SH)) (An A61 2) C61 [.ptr 0 0, .agg (I 33 :: encT x)] (objs LM t tw m) (KT 2) = some (.tup [.agg (encW (stepB m { x with line := 33 }).x), I (stepB m { x with line := 33 }).way, B (stepB m { x with line := 33 }).ok], objs LM t tw (stepB m { x with line := 33 }).m) := by
  obtain ⟨b1, b2, b3, b4, b5, b6, b7, b8, b9, b10, b11, b12⟩ := okW_all hx
  have hu := okM_u hm
  rw [nBP_33]
  try simp only [clrV, clrL, b3, uB_load hu, ge_iff_le, Bool.and_true, br_t, cfg_b1 hm]
  simp only [stepB, Int.reduceEq, ↓reduceIte]
  cases h0 : (readyV (mLoadV m (adr m.c 2 x.J)) x.E) <;> cases h1 : (decide (m.c.b - 1 ≤ x.J)) <;> simp only [br_t, br_f, cond_true, cond_false] <;> first | rfl | (rw [eq_of_beq h0]; done) | (rw [eq_of_beq h0]; rfl)
theorem vBP_34 {m : Mm} {x : Wk} {t tw : TypeId} (hm : okM m = true) (hx : okW x = true) : sxFn (E61 (Ω := SV × SH)) (An A61 2) C61 [.ptr 0 0, .agg (I 34 :: encT x)] (objs LM t tw m) (KT 2) = some (.tup [.agg (encW (stepB m { x with line := 34 }).x), I (stepB m { x with line := 34 }).way, B (stepB m { x with line := 34 }).ok], objs LM t tw (stepB m { x with line := 34 }).m) := by
  obtain ⟨b1, b2, b3, b4, b5, b6, b7, b8, b9, b10, b11, b12⟩ := okW_all hx
  have hu := okM_u hm
  rw [nBP_34]
  try simp only [clrB, clrC]
  simp only [stepB, Int.reduceEq, ↓reduceIte]
  cases h0 : (mCasB m (adr m.c 2 x.J) x.V) <;> simp only [br_t, br_f, cond_true, cond_false] <;> first | rfl | (rw [eq_of_beq h0]; done) | (rw [eq_of_beq h0]; rfl)
theorem vBP_35 {m : Mm} {x : Wk} {t tw : TypeId} (hm : okM m = true) (hx : okW x = true) : sxFn (E61 (Ω := SV × SH)) (An A61 2) C61 [.ptr 0 0, .agg (I 35 :: encT x)] (objs LM t tw m) (KT 2) = some (.tup [.agg (encW (stepB m { x with line := 35 }).x), I (stepB m { x with line := 35 }).way, B (stepB m { x with line := 35 }).ok], objs LM t tw (stepB m { x with line := 35 }).m) := by
  obtain ⟨b1, b2, b3, b4, b5, b6, b7, b8, b9, b10, b11, b12⟩ := okW_all hx
  have hu := okM_u hm
  rw [nBP_35]
  try simp only [clrV, clrL, uB_load hu, br_t, adrH_fold]
  simp only [stepB, Int.reduceEq, ↓reduceIte]
  cases h0 : (mLoadV m (adrH m.c x.B) % 16 == 2) <;> simp only [br_t, br_f, cond_true, cond_false, Bool.not_true, Bool.not_false] <;> first | rfl | (rw [eq_of_beq h0]; done) | (rw [eq_of_beq h0]; rfl)
theorem vBP_36 {m : Mm} {x : Wk} {t tw : TypeId} (hm : okM m = true) (hx : okW x = true) : sxFn (E61 (Ω := SV × SH)) (An A61 2) C61 [.ptr 0 0, .agg (I 36 :: encT x)] (objs LM t tw m) (KT 2) = some (.tup [.agg (encW (stepB m { x with line := 36 }).x), I (stepB m { x with line := 36 }).way, B (stepB m { x with line := 36 }).ok], objs LM t tw (stepB m { x with line := 36 }).m) := by
  obtain ⟨b1, b2, b3, b4, b5, b6, b7, b8, b9, b10, b11, b12⟩ := okW_all hx
  have hu := okM_u hm
  rw [nBP_36]
  try simp only [clrV, clrL, uB_load hu, br_t]
  simp only [stepB, Int.reduceEq, ↓reduceIte]
  cases h0 : (mLoadV m (adr m.c 2 x.slab) % 16 == 1) <;> simp only [br_t, br_f, cond_true, cond_false, Bool.not_true, Bool.not_false] <;> first | rfl | (rw [eq_of_beq h0]; done) | (rw [eq_of_beq h0]; rfl)
theorem vBP_37 {m : Mm} {x : Wk} {t tw : TypeId} (hm : okM m = true) (hx : okW x = true) : sxFn (E61 (Ω := SV × SH)) (An A61 2) C61 [.ptr 0 0, .agg (I 37 :: encT x)] (objs LM t tw m) (KT 2) = some (.tup [.agg (encW (stepB m { x with line := 37 }).x), I (stepB m { x with line := 37 }).way, B (stepB m { x with line := 37 }).ok], objs LM t tw (stepB m { x with line := 37 }).m) := by
  obtain ⟨b1, b2, b3, b4, b5, b6, b7, b8, b9, b10, b11, b12⟩ := okW_all hx
  have hu := okM_u hm
  rw [nBP_37]
  try simp only [clrB, clrC]
  simp only [stepB, Int.reduceEq, ↓reduceIte]
  cases h0 : (mCasB m (adr m.c 2 x.slab) x.V) <;> simp only [br_t, br_f, cond_true, cond_false] <;> first | rfl | (rw [eq_of_beq h0]; done) | (rw [eq_of_beq h0]; rfl)
theorem vBP_39 {m : Mm} {x : Wk} {t tw : TypeId} (hm : okM m = true) (hx : okW x = true) : sxFn (E61 (Ω := SV × SH)) (An A61 2) C61 [.ptr 0 0, .agg (I 39 :: encT x)] (objs LM t tw m) (KT 2) = some (.tup [.agg (encW (stepB m { x with line := 39 }).x), I (stepB m { x with line := 39 }).way, B (stepB m { x with line := 39 }).ok], objs LM t tw (stepB m { x with line := 39 }).m) := by
  obtain ⟨b1, b2, b3, b4, b5, b6, b7, b8, b9, b10, b11, b12⟩ := okW_all hx
  have hu := okM_u hm
  rw [nBP_39]
  try simp only [clrV, clrL, uB_load hu, br_t, adrH_fold]
  simp only [stepB, Int.reduceEq, ↓reduceIte]
  cases h0 : (mLoadV m (adrH m.c x.K) % 16 == 2) <;> simp only [br_t, br_f, cond_true, cond_false, Bool.not_true, Bool.not_false] <;> first | rfl | (rw [eq_of_beq h0]; done) | (rw [eq_of_beq h0]; rfl)
theorem vBP {m : Mm} {x : Wk} {t tw : TypeId} (hm : okM m = true) (hx : okW x = true) : sxFn (E61 (Ω := SV × SH)) (An A61 2) C61 [.ptr 0 0, .agg (encW x)] (objs LM t tw m) (KT 2) = some (.tup [.agg (encW (stepB m x).x), I (stepB m x).way, B (stepB m x).ok], objs LM t tw (stepB m x).m) := by
  have no : ∀ q : Int, x.line = q → OBP q → (x.line ≠ 30 ∧ x.line ≠ 31 ∧ x.line ≠ 32 ∧ x.line ≠ 33 ∧ x.line ≠ 34 ∧ x.line ≠ 35 ∧ x.line ≠ 36 ∧ x.line ≠ 37 ∧ x.line ≠ 39) → sxFn (E61 (Ω := SV × SH)) (An A61 2) C61 [.ptr 0 0, .agg (encW x)] (objs LM t tw m) (KT 2) = some (.tup [.agg (encW (stepB m x).x), I (stepB m x).way, B (stepB m x).ok], objs LM t tw (stepB m x).m) := fun q hq ho hn => by
    rw [mB_no hn]
    have := ho m x t tw
    rw [← hq] at this
    exact this
  have ye : ∀ q : Int, x.line = q → (sxFn (E61 (Ω := SV × SH)) (An A61 2) C61 [.ptr 0 0, .agg (I q :: encT x)] (objs LM t tw m) (KT 2) = some (.tup [.agg (encW (stepB m { x with line := q }).x), I (stepB m { x with line := q }).way, B (stepB m { x with line := q }).ok], objs LM t tw (stepB m { x with line := q }).m)) → sxFn (E61 (Ω := SV × SH)) (An A61 2) C61 [.ptr 0 0, .agg (encW x)] (objs LM t tw m) (KT 2) = some (.tup [.agg (encW (stepB m x).x), I (stepB m x).way, B (stepB m x).ok], objs LM t tw (stepB m x).m) := fun q hq h => by
    have e1 : { x with line := q } = x := by rw [← hq]
    have e : I q :: encT x = encW x := by simp only [encW]; rw [hq]
    rw [e1, e] at h
    exact h
  rcases hl : x.line with n | n
  · by_cases hn : 40 ≤ n
    · obtain ⟨k, rfl⟩ : ∃ k, n = k + 40 := ⟨n - 40, by omega⟩
      exact no _ hl (oBP_top k) (by rw [hl]; simp only [Int.ofNat_eq_natCast, ne_eq]; omega)
    · have : n < 40 := by omega
      match n, hl, this with
      | 0, hl, _ => exact no _ hl oBP_0 (by rw [hl]; simp only [Int.ofNat_eq_natCast, ne_eq]; omega)
      | 1, hl, _ => exact no _ hl oBP_1 (by rw [hl]; simp only [Int.ofNat_eq_natCast, ne_eq]; omega)
      | 2, hl, _ => exact no _ hl oBP_2 (by rw [hl]; simp only [Int.ofNat_eq_natCast, ne_eq]; omega)
      | 3, hl, _ => exact no _ hl oBP_3 (by rw [hl]; simp only [Int.ofNat_eq_natCast, ne_eq]; omega)
      | 4, hl, _ => exact no _ hl oBP_4 (by rw [hl]; simp only [Int.ofNat_eq_natCast, ne_eq]; omega)
      | 5, hl, _ => exact no _ hl oBP_5 (by rw [hl]; simp only [Int.ofNat_eq_natCast, ne_eq]; omega)
      | 6, hl, _ => exact no _ hl oBP_6 (by rw [hl]; simp only [Int.ofNat_eq_natCast, ne_eq]; omega)
      | 7, hl, _ => exact no _ hl oBP_7 (by rw [hl]; simp only [Int.ofNat_eq_natCast, ne_eq]; omega)
      | 8, hl, _ => exact no _ hl oBP_8 (by rw [hl]; simp only [Int.ofNat_eq_natCast, ne_eq]; omega)
      | 9, hl, _ => exact no _ hl oBP_9 (by rw [hl]; simp only [Int.ofNat_eq_natCast, ne_eq]; omega)
      | 10, hl, _ => exact no _ hl oBP_10 (by rw [hl]; simp only [Int.ofNat_eq_natCast, ne_eq]; omega)
      | 11, hl, _ => exact no _ hl oBP_11 (by rw [hl]; simp only [Int.ofNat_eq_natCast, ne_eq]; omega)
      | 12, hl, _ => exact no _ hl oBP_12 (by rw [hl]; simp only [Int.ofNat_eq_natCast, ne_eq]; omega)
      | 13, hl, _ => exact no _ hl oBP_13 (by rw [hl]; simp only [Int.ofNat_eq_natCast, ne_eq]; omega)
      | 14, hl, _ => exact no _ hl oBP_14 (by rw [hl]; simp only [Int.ofNat_eq_natCast, ne_eq]; omega)
      | 15, hl, _ => exact no _ hl oBP_15 (by rw [hl]; simp only [Int.ofNat_eq_natCast, ne_eq]; omega)
      | 16, hl, _ => exact no _ hl oBP_16 (by rw [hl]; simp only [Int.ofNat_eq_natCast, ne_eq]; omega)
      | 17, hl, _ => exact no _ hl oBP_17 (by rw [hl]; simp only [Int.ofNat_eq_natCast, ne_eq]; omega)
      | 18, hl, _ => exact no _ hl oBP_18 (by rw [hl]; simp only [Int.ofNat_eq_natCast, ne_eq]; omega)
      | 19, hl, _ => exact no _ hl oBP_19 (by rw [hl]; simp only [Int.ofNat_eq_natCast, ne_eq]; omega)
      | 20, hl, _ => exact no _ hl oBP_20 (by rw [hl]; simp only [Int.ofNat_eq_natCast, ne_eq]; omega)
      | 21, hl, _ => exact no _ hl oBP_21 (by rw [hl]; simp only [Int.ofNat_eq_natCast, ne_eq]; omega)
      | 22, hl, _ => exact no _ hl oBP_22 (by rw [hl]; simp only [Int.ofNat_eq_natCast, ne_eq]; omega)
      | 23, hl, _ => exact no _ hl oBP_23 (by rw [hl]; simp only [Int.ofNat_eq_natCast, ne_eq]; omega)
      | 24, hl, _ => exact no _ hl oBP_24 (by rw [hl]; simp only [Int.ofNat_eq_natCast, ne_eq]; omega)
      | 25, hl, _ => exact no _ hl oBP_25 (by rw [hl]; simp only [Int.ofNat_eq_natCast, ne_eq]; omega)
      | 26, hl, _ => exact no _ hl oBP_26 (by rw [hl]; simp only [Int.ofNat_eq_natCast, ne_eq]; omega)
      | 27, hl, _ => exact no _ hl oBP_27 (by rw [hl]; simp only [Int.ofNat_eq_natCast, ne_eq]; omega)
      | 28, hl, _ => exact no _ hl oBP_28 (by rw [hl]; simp only [Int.ofNat_eq_natCast, ne_eq]; omega)
      | 29, hl, _ => exact no _ hl oBP_29 (by rw [hl]; simp only [Int.ofNat_eq_natCast, ne_eq]; omega)
      | 30, hl, _ => exact ye 30 hl (vBP_30 hm hx)
      | 31, hl, _ => exact ye 31 hl (vBP_31 hm hx)
      | 32, hl, _ => exact ye 32 hl (vBP_32 hm hx)
      | 33, hl, _ => exact ye 33 hl (vBP_33 hm hx)
      | 34, hl, _ => exact ye 34 hl (vBP_34 hm hx)
      | 35, hl, _ => exact ye 35 hl (vBP_35 hm hx)
      | 36, hl, _ => exact ye 36 hl (vBP_36 hm hx)
      | 37, hl, _ => exact ye 37 hl (vBP_37 hm hx)
      | 38, hl, _ => exact no _ hl oBP_38 (by rw [hl]; simp only [Int.ofNat_eq_natCast, ne_eq]; omega)
      | 39, hl, _ => exact ye 39 hl (vBP_39 hm hx)
      | n + 40, _, h => exact absurd h (by omega)
  · exact no _ hl (oBP_neg n) (by rw [hl]; simp only [ne_eq]; omega)
theorem vBN_30 {m : Mm} {x : Wk} {t tw : TypeId} (hm : okM m = true) (hx : okW x = true) : sxFn (E62 (Ω := SV × SH)) (An A62 2) C62 [.ptr 0 0, .agg (I 30 :: encT x)] (objs LN t tw m) (KT 2) = some (.tup [.agg (encW (stepB m { x with line := 30 }).x), I (stepB m { x with line := 30 }).way, B (stepB m { x with line := 30 }).ok], objs LN t tw (stepB m { x with line := 30 }).m) := by
  obtain ⟨b1, b2, b3, b4, b5, b6, b7, b8, b9, b10, b11, b12⟩ := okW_all hx
  have hu := okM_u hm
  rw [nBN_30]
  try simp only [br_t, uB_wrap, adrH_fold]
  simp only [stepB, ↓reduceIte]
  cases h0 : (wU (mLoadV m (adrH m.c x.K) + 16) / 16 % 4096 == m.c.c) <;> simp only [br_t, br_f, cond_true, cond_false, Bool.not_true, Bool.not_false] <;> first | rfl | (rw [eq_of_beq h0]; done) | (rw [eq_of_beq h0]; rfl)
theorem vBN_31 {m : Mm} {x : Wk} {t tw : TypeId} (hm : okM m = true) (hx : okW x = true) : sxFn (E62 (Ω := SV × SH)) (An A62 2) C62 [.ptr 0 0, .agg (I 31 :: encT x)] (objs LN t tw m) (KT 2) = some (.tup [.agg (encW (stepB m { x with line := 31 }).x), I (stepB m { x with line := 31 }).way, B (stepB m { x with line := 31 }).ok], objs LN t tw (stepB m { x with line := 31 }).m) := by
  obtain ⟨b1, b2, b3, b4, b5, b6, b7, b8, b9, b10, b11, b12⟩ := okW_all hx
  have hu := okM_u hm
  rw [nBN_31]
  try simp only [clrV, clrL, clrS, clrB, clrC, clrA, clrAV, b1, b2, b3, b4, b5, b6, b7, b8, b9, b10, b11, b12, uB_load hu, tmod_load hu, tdiv_load hu (show (0 : Int) < 2 by decide), cfg_a1 hm, low32, w64_low, vers b9, uB_vers b9, nn (uB_load hu), nn b3, nn b8, nn b9, nn b11, nn b12, ge_iff_le, Bool.and_true, Bool.true_and, br_t, mAddV_eq hu, uB_wrap, cfg_b1 hm, pSlab10, pSlab20, adrH_fold]
  simp only [stepB, Int.reduceEq, ↓reduceIte]
  all_goals rfl
theorem vBN_32 {m : Mm} {x : Wk} {t tw : TypeId} (hm : okM m = true) (hx : okW x = true) : sxFn (E62 (Ω := SV × SH)) (An A62 2) C62 [.ptr 0 0, .agg (I 32 :: encT x)] (objs LN t tw m) (KT 2) = some (.tup [.agg (encW (stepB m { x with line := 32 }).x), I (stepB m { x with line := 32 }).way, B (stepB m { x with line := 32 }).ok], objs LN t tw (stepB m { x with line := 32 }).m) := by
  obtain ⟨b1, b2, b3, b4, b5, b6, b7, b8, b9, b10, b11, b12⟩ := okW_all hx
  have hu := okM_u hm
  rw [nBN_32]
  try simp only [b9, br_t, adrH_fold]
  simp only [stepB, Int.reduceEq, ↓reduceIte]
  all_goals rfl
theorem vBN_33 {m : Mm} {x : Wk} {t tw : TypeId} (hm : okM m = true) (hx : okW x = true) : sxFn (E62 (Ω := SV × SH)) (An A62 2) C62 [.ptr 0 0, .agg (I 33 :: encT x)] (objs LN t tw m) (KT 2) = some (.tup [.agg (encW (stepB m { x with line := 33 }).x), I (stepB m { x with line := 33 }).way, B (stepB m { x with line := 33 }).ok], objs LN t tw (stepB m { x with line := 33 }).m) := by
  obtain ⟨b1, b2, b3, b4, b5, b6, b7, b8, b9, b10, b11, b12⟩ := okW_all hx
  have hu := okM_u hm
  rw [nBN_33]
  try simp only [b3, uB_load hu, ge_iff_le, Bool.and_true, br_t, cfg_b1 hm]
  simp only [stepB, Int.reduceEq, ↓reduceIte]
  cases h0 : (readyV (mLoadV m (adr m.c 2 x.J)) x.E) <;> cases h1 : (decide (m.c.b - 1 ≤ x.J)) <;> simp only [br_t, br_f, cond_true, cond_false] <;> first | rfl | (rw [eq_of_beq h0]; done) | (rw [eq_of_beq h0]; rfl)
theorem vBN_34 {m : Mm} {x : Wk} {t tw : TypeId} (hm : okM m = true) (hx : okW x = true) : sxFn (E62 (Ω := SV × SH)) (An A62 2) C62 [.ptr 0 0, .agg (I 34 :: encT x)] (objs LN t tw m) (KT 2) = some (.tup [.agg (encW (stepB m { x with line := 34 }).x), I (stepB m { x with line := 34 }).way, B (stepB m { x with line := 34 }).ok], objs LN t tw (stepB m { x with line := 34 }).m) := by
  obtain ⟨b1, b2, b3, b4, b5, b6, b7, b8, b9, b10, b11, b12⟩ := okW_all hx
  have hu := okM_u hm
  rw [nBN_34]
  try simp only [clrV, clrL, clrS, clrB, clrC, clrA, clrAV, b1, b2, b3, b4, b5, b6, b7, b8, b9, b10, b11, b12, uB_load hu, tmod_load hu, tdiv_load hu (show (0 : Int) < 2 by decide), cfg_a1 hm, low32, w64_low, vers b9, uB_vers b9, nn (uB_load hu), nn b3, nn b8, nn b9, nn b11, nn b12, ge_iff_le, Bool.and_true, Bool.true_and, br_t, mAddV_eq hu, uB_wrap, cfg_b1 hm, pSlab10, pSlab20, adrH_fold]
  simp only [stepB, Int.reduceEq, ↓reduceIte]
  cases h0 : (mCasB m (adr m.c 2 x.J) x.V) <;> simp only [br_t, br_f, cond_true, cond_false] <;> first | rfl | (rw [eq_of_beq h0]; done) | (rw [eq_of_beq h0]; rfl)
theorem vBN_35 {m : Mm} {x : Wk} {t tw : TypeId} (hm : okM m = true) (hx : okW x = true) : sxFn (E62 (Ω := SV × SH)) (An A62 2) C62 [.ptr 0 0, .agg (I 35 :: encT x)] (objs LN t tw m) (KT 2) = some (.tup [.agg (encW (stepB m { x with line := 35 }).x), I (stepB m { x with line := 35 }).way, B (stepB m { x with line := 35 }).ok], objs LN t tw (stepB m { x with line := 35 }).m) := by
  obtain ⟨b1, b2, b3, b4, b5, b6, b7, b8, b9, b10, b11, b12⟩ := okW_all hx
  have hu := okM_u hm
  rw [nBN_35]
  try simp only [uB_load hu, br_t, adrH_fold]
  simp only [stepB, Int.reduceEq, ↓reduceIte]
  cases h0 : (mLoadV m (adrH m.c x.B) % 16 == 2) <;> simp only [br_t, br_f, cond_true, cond_false, Bool.not_true, Bool.not_false] <;> first | rfl | (rw [eq_of_beq h0]; done) | (rw [eq_of_beq h0]; rfl)
theorem vBN_36 {m : Mm} {x : Wk} {t tw : TypeId} (hm : okM m = true) (hx : okW x = true) : sxFn (E62 (Ω := SV × SH)) (An A62 2) C62 [.ptr 0 0, .agg (I 36 :: encT x)] (objs LN t tw m) (KT 2) = some (.tup [.agg (encW (stepB m { x with line := 36 }).x), I (stepB m { x with line := 36 }).way, B (stepB m { x with line := 36 }).ok], objs LN t tw (stepB m { x with line := 36 }).m) := by
  obtain ⟨b1, b2, b3, b4, b5, b6, b7, b8, b9, b10, b11, b12⟩ := okW_all hx
  have hu := okM_u hm
  rw [nBN_36]
  try simp only [uB_load hu, br_t]
  simp only [stepB, Int.reduceEq, ↓reduceIte]
  cases h0 : (mLoadV m (adr m.c 2 x.slab) % 16 == 1) <;> simp only [br_t, br_f, cond_true, cond_false, Bool.not_true, Bool.not_false] <;> first | rfl | (rw [eq_of_beq h0]; done) | (rw [eq_of_beq h0]; rfl)
theorem vBN_37 {m : Mm} {x : Wk} {t tw : TypeId} (hm : okM m = true) (hx : okW x = true) : sxFn (E62 (Ω := SV × SH)) (An A62 2) C62 [.ptr 0 0, .agg (I 37 :: encT x)] (objs LN t tw m) (KT 2) = some (.tup [.agg (encW (stepB m { x with line := 37 }).x), I (stepB m { x with line := 37 }).way, B (stepB m { x with line := 37 }).ok], objs LN t tw (stepB m { x with line := 37 }).m) := by
  obtain ⟨b1, b2, b3, b4, b5, b6, b7, b8, b9, b10, b11, b12⟩ := okW_all hx
  have hu := okM_u hm
  rw [nBN_37]
  try simp only [clrV, clrL, clrS, clrB, clrC, clrA, clrAV, b1, b2, b3, b4, b5, b6, b7, b8, b9, b10, b11, b12, uB_load hu, tmod_load hu, tdiv_load hu (show (0 : Int) < 2 by decide), cfg_a1 hm, low32, w64_low, vers b9, uB_vers b9, nn (uB_load hu), nn b3, nn b8, nn b9, nn b11, nn b12, ge_iff_le, Bool.and_true, Bool.true_and, br_t, mAddV_eq hu, uB_wrap, cfg_b1 hm, pSlab10, pSlab20, adrH_fold]
  simp only [stepB, Int.reduceEq, ↓reduceIte]
  cases h0 : (mCasB m (adr m.c 2 x.slab) x.V) <;> simp only [br_t, br_f, cond_true, cond_false] <;> first | rfl | (rw [eq_of_beq h0]; done) | (rw [eq_of_beq h0]; rfl)
theorem vBN_39 {m : Mm} {x : Wk} {t tw : TypeId} (hm : okM m = true) (hx : okW x = true) : sxFn (E62 (Ω := SV × SH)) (An A62 2) C62 [.ptr 0 0, .agg (I 39 :: encT x)] (objs LN t tw m) (KT 2) = some (.tup [.agg (encW (stepB m { x with line := 39 }).x), I (stepB m { x with line := 39 }).way, B (stepB m { x with line := 39 }).ok], objs LN t tw (stepB m { x with line := 39 }).m) := by
  obtain ⟨b1, b2, b3, b4, b5, b6, b7, b8, b9, b10, b11, b12⟩ := okW_all hx
  have hu := okM_u hm
  rw [nBN_39]
  try simp only [uB_load hu, br_t, adrH_fold]
  simp only [stepB, Int.reduceEq, ↓reduceIte]
  cases h0 : (mLoadV m (adrH m.c x.K) % 16 == 2) <;> simp only [br_t, br_f, cond_true, cond_false, Bool.not_true, Bool.not_false] <;> first | rfl | (rw [eq_of_beq h0]; done) | (rw [eq_of_beq h0]; rfl)
theorem vBN {m : Mm} {x : Wk} {t tw : TypeId} (hm : okM m = true) (hx : okW x = true) : sxFn (E62 (Ω := SV × SH)) (An A62 2) C62 [.ptr 0 0, .agg (encW x)] (objs LN t tw m) (KT 2) = some (.tup [.agg (encW (stepB m x).x), I (stepB m x).way, B (stepB m x).ok], objs LN t tw (stepB m x).m) := by
  have no : ∀ q : Int, x.line = q → OBN q → (x.line ≠ 30 ∧ x.line ≠ 31 ∧ x.line ≠ 32 ∧ x.line ≠ 33 ∧ x.line ≠ 34 ∧ x.line ≠ 35 ∧ x.line ≠ 36 ∧ x.line ≠ 37 ∧ x.line ≠ 39) → sxFn (E62 (Ω := SV × SH)) (An A62 2) C62 [.ptr 0 0, .agg (encW x)] (objs LN t tw m) (KT 2) = some (.tup [.agg (encW (stepB m x).x), I (stepB m x).way, B (stepB m x).ok], objs LN t tw (stepB m x).m) := fun q hq ho hn => by
    rw [mB_no hn]
    have := ho m x t tw
    rw [← hq] at this
    exact this
  have ye : ∀ q : Int, x.line = q → (sxFn (E62 (Ω := SV × SH)) (An A62 2) C62 [.ptr 0 0, .agg (I q :: encT x)] (objs LN t tw m) (KT 2) = some (.tup [.agg (encW (stepB m { x with line := q }).x), I (stepB m { x with line := q }).way, B (stepB m { x with line := q }).ok], objs LN t tw (stepB m { x with line := q }).m)) → sxFn (E62 (Ω := SV × SH)) (An A62 2) C62 [.ptr 0 0, .agg (encW x)] (objs LN t tw m) (KT 2) = some (.tup [.agg (encW (stepB m x).x), I (stepB m x).way, B (stepB m x).ok], objs LN t tw (stepB m x).m) := fun q hq h => by
    have e1 : { x with line := q } = x := by rw [← hq]
    have e : I q :: encT x = encW x := by simp only [encW]; rw [hq]
    rw [e1, e] at h
    exact h
  rcases hl : x.line with n | n
  · by_cases hn : 40 ≤ n
    · obtain ⟨k, rfl⟩ : ∃ k, n = k + 40 := ⟨n - 40, by omega⟩
      exact no _ hl (oBN_top k) (by rw [hl]; simp only [Int.ofNat_eq_natCast, ne_eq]; omega)
    · have : n < 40 := by omega
      match n, hl, this with
      | 0, hl, _ => exact no _ hl oBN_0 (by rw [hl]; simp only [Int.ofNat_eq_natCast, ne_eq]; omega)
      | 1, hl, _ => exact no _ hl oBN_1 (by rw [hl]; simp only [Int.ofNat_eq_natCast, ne_eq]; omega)
      | 2, hl, _ => exact no _ hl oBN_2 (by rw [hl]; simp only [Int.ofNat_eq_natCast, ne_eq]; omega)
      | 3, hl, _ => exact no _ hl oBN_3 (by rw [hl]; simp only [Int.ofNat_eq_natCast, ne_eq]; omega)
      | 4, hl, _ => exact no _ hl oBN_4 (by rw [hl]; simp only [Int.ofNat_eq_natCast, ne_eq]; omega)
      | 5, hl, _ => exact no _ hl oBN_5 (by rw [hl]; simp only [Int.ofNat_eq_natCast, ne_eq]; omega)
      | 6, hl, _ => exact no _ hl oBN_6 (by rw [hl]; simp only [Int.ofNat_eq_natCast, ne_eq]; omega)
      | 7, hl, _ => exact no _ hl oBN_7 (by rw [hl]; simp only [Int.ofNat_eq_natCast, ne_eq]; omega)
      | 8, hl, _ => exact no _ hl oBN_8 (by rw [hl]; simp only [Int.ofNat_eq_natCast, ne_eq]; omega)
      | 9, hl, _ => exact no _ hl oBN_9 (by rw [hl]; simp only [Int.ofNat_eq_natCast, ne_eq]; omega)
      | 10, hl, _ => exact no _ hl oBN_10 (by rw [hl]; simp only [Int.ofNat_eq_natCast, ne_eq]; omega)
      | 11, hl, _ => exact no _ hl oBN_11 (by rw [hl]; simp only [Int.ofNat_eq_natCast, ne_eq]; omega)
      | 12, hl, _ => exact no _ hl oBN_12 (by rw [hl]; simp only [Int.ofNat_eq_natCast, ne_eq]; omega)
      | 13, hl, _ => exact no _ hl oBN_13 (by rw [hl]; simp only [Int.ofNat_eq_natCast, ne_eq]; omega)
      | 14, hl, _ => exact no _ hl oBN_14 (by rw [hl]; simp only [Int.ofNat_eq_natCast, ne_eq]; omega)
      | 15, hl, _ => exact no _ hl oBN_15 (by rw [hl]; simp only [Int.ofNat_eq_natCast, ne_eq]; omega)
      | 16, hl, _ => exact no _ hl oBN_16 (by rw [hl]; simp only [Int.ofNat_eq_natCast, ne_eq]; omega)
      | 17, hl, _ => exact no _ hl oBN_17 (by rw [hl]; simp only [Int.ofNat_eq_natCast, ne_eq]; omega)
      | 18, hl, _ => exact no _ hl oBN_18 (by rw [hl]; simp only [Int.ofNat_eq_natCast, ne_eq]; omega)
      | 19, hl, _ => exact no _ hl oBN_19 (by rw [hl]; simp only [Int.ofNat_eq_natCast, ne_eq]; omega)
      | 20, hl, _ => exact no _ hl oBN_20 (by rw [hl]; simp only [Int.ofNat_eq_natCast, ne_eq]; omega)
      | 21, hl, _ => exact no _ hl oBN_21 (by rw [hl]; simp only [Int.ofNat_eq_natCast, ne_eq]; omega)
      | 22, hl, _ => exact no _ hl oBN_22 (by rw [hl]; simp only [Int.ofNat_eq_natCast, ne_eq]; omega)
      | 23, hl, _ => exact no _ hl oBN_23 (by rw [hl]; simp only [Int.ofNat_eq_natCast, ne_eq]; omega)
      | 24, hl, _ => exact no _ hl oBN_24 (by rw [hl]; simp only [Int.ofNat_eq_natCast, ne_eq]; omega)
      | 25, hl, _ => exact no _ hl oBN_25 (by rw [hl]; simp only [Int.ofNat_eq_natCast, ne_eq]; omega)
      | 26, hl, _ => exact no _ hl oBN_26 (by rw [hl]; simp only [Int.ofNat_eq_natCast, ne_eq]; omega)
      | 27, hl, _ => exact no _ hl oBN_27 (by rw [hl]; simp only [Int.ofNat_eq_natCast, ne_eq]; omega)
      | 28, hl, _ => exact no _ hl oBN_28 (by rw [hl]; simp only [Int.ofNat_eq_natCast, ne_eq]; omega)
      | 29, hl, _ => exact no _ hl oBN_29 (by rw [hl]; simp only [Int.ofNat_eq_natCast, ne_eq]; omega)
      | 30, hl, _ => exact ye 30 hl (vBN_30 hm hx)
      | 31, hl, _ => exact ye 31 hl (vBN_31 hm hx)
      | 32, hl, _ => exact ye 32 hl (vBN_32 hm hx)
      | 33, hl, _ => exact ye 33 hl (vBN_33 hm hx)
      | 34, hl, _ => exact ye 34 hl (vBN_34 hm hx)
      | 35, hl, _ => exact ye 35 hl (vBN_35 hm hx)
      | 36, hl, _ => exact ye 36 hl (vBN_36 hm hx)
      | 37, hl, _ => exact ye 37 hl (vBN_37 hm hx)
      | 38, hl, _ => exact no _ hl oBN_38 (by rw [hl]; simp only [Int.ofNat_eq_natCast, ne_eq]; omega)
      | 39, hl, _ => exact ye 39 hl (vBN_39 hm hx)
      | n + 40, _, h => exact absurd h (by omega)
  · exact no _ hl (oBN_neg n) (by rw [hl]; simp only [ne_eq]; omega)
def GB (m : Mm) (l : List SV) : Option (Bool × SV × Mm) := match l with
  | [.agg c] => bif isC ctsW c then some (okM m && okW (decW c), .tup [.agg (encW (stepB m (decW c)).x), I (stepB m (decW c)).way, B (stepB m (decW c)).ok], (stepB m (decW c)).m) else none
  | _ => none
def GBn (l : List SV) : Option SV := match l with
  | [.agg c] => bif isC ctsW c then some (.tup [.agg (encW (decW c)), I 0, B false]) else none
  | _ => none
theorem nB_nil (x : Wk) : sxFn (E61 (Ω := SV × SH)) (An A61 0) C61 [.d (.v (.pointer none)), .agg (encW x)] [] (KT 0) = some (.tup [.agg (encW x), I 0, B false], []) := by kernel_rfl
def S61m {Ω : Type} : Spec Ω := memSpec [none, some ctsW] (findM LM.own) [] (memF LM GB GBn)
theorem g61m : Good1 Try.prog 61 S61m := memFGood (A := A61) Try.func61 (by kernel_rfl) c61 e61 mix (L := LM) lay_M (fun m xs r m' t tw h => by
  unfold GB at h
  split at h
  · rename_i c
    obtain ⟨hc, h⟩ := cond_some h
    simp only [Option.some.injEq, Prod.mk.injEq, Bool.and_eq_true] at h
    obtain ⟨⟨hm, hx⟩, rfl, rfl⟩ := h
    rw [← enc_decW hc]
    rw [dec_encW]
    exact ⟨_, LeV.refl _, vBP hm hx⟩
  · cases h) (fun xs r h => by
  unfold GBn at h
  split at h
  · obtain ⟨hc, h⟩ := cond_some h
    simp only [Option.some.injEq] at h
    subst h
    rw [← enc_decW hc, dec_encW]
    exact nB_nil _
  · cases h)
def S62m {Ω : Type} : Spec Ω := memSpec [none, some ctsW] (findM LN.own) [] (memF LN GB (fun _ => none))
theorem g62m : Good1 Try.prog 62 S62m := memFGood (A := A62) Try.func62 (by kernel_rfl) c62 e62 mix (L := LN) lay_N (fun m xs r m' t tw h => by
  unfold GB at h
  split at h
  · rename_i c
    obtain ⟨hc, h⟩ := cond_some h
    simp only [Option.some.injEq, Prod.mk.injEq, Bool.and_eq_true] at h
    obtain ⟨⟨hm, hx⟩, rfl, rfl⟩ := h
    rw [← enc_decW hc]
    rw [dec_encW]
    exact ⟨_, LeV.refl _, vBN hm hx⟩
  · cases h) (fun xs r h => by cases h)
end Go.Sx.Pr
