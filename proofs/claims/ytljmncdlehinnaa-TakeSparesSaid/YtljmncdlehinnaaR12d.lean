/- Pieces of the code of functions, compiled for the symbolic interpreter, each checked against the program; no conditions. -/
import Derived.Test.YtljmncdlehinnaaR11
import Derived.Test.YtljmncdlehinnaaRows
import Derived.KernelRfl
set_option linter.all false
set_option linter.unusedVariables false
set_option linter.unusedSimpArgs false
set_option linter.unnecessarySimpa false
namespace Go.Sx.Pr
open Go Go.Sx Go.Proofs
set_option maxRecDepth 100000
def K98_1 : CC := .seq (.seq (.reg false [⟨some 9, .mv (.t 0), none, 0⟩,
   ⟨some 10, .call (.c (.fn (.func 54) [] [])) [.t 9], none, 0⟩,
   ⟨some 8, .mv (.t 10), none, 0⟩,
   ⟨some 11, .ext 0 (.t 8), none, 0⟩,
   ⟨some 12, .ext 1 (.t 8), none, 0⟩,
   ⟨some 13, .ext 2 (.t 8), none, 0⟩,
   ⟨some 5, .mv (.t 11), none, 0⟩,
   ⟨some 6, .mv (.t 12), none, 0⟩,
   ⟨some 7, .mv (.t 13), none, 0⟩])
 (.seq (.reg false [⟨some 14, .mv (.t 5), none, 0⟩])
 (.block 0 (.seq (.reg false [⟨some 16, .eq .int false (.t 14) (.c (.d (.v (.int .i64 0)))), none, 0⟩,
     ⟨some 15, .mv (.t 16), none, 0⟩])
   (.cond 15 (.seq (.reg false [⟨some 4, .mv (.c (.d (.v (.bool true)))), none, 0⟩])
     (.ret))
     (.seq (.reg false [⟨some 18, .eq .int false (.t 14) (.c (.d (.v (.int .i64 3)))), none, 0⟩,
       ⟨some 17, .mv (.t 18), none, 0⟩])
     (.cond 17 (.seq (.reg false [⟨some 19, .mv (.t 1), none, 0⟩,
         ⟨some 20, .bin .geq (.t 19) (.c (.d (.v (.int .u64 2)))), none, 0⟩,
         ⟨some 21, .mv (.t 20), none, 0⟩,
         ⟨some 22, .mv (.t 7), some (21, true), 0⟩,
         ⟨some 23, .mv (.t 1), some (21, true), 0⟩,
         ⟨some 24, .bin .sub (.t 23) (.c (.d (.v (.int .u64 2)))), some (21, true), 0⟩,
         ⟨some 25, .bin .leq (.t 22) (.t 24), some (21, true), 0⟩,
         ⟨some 26, .pick (.t 21) (.t 25) (.c (.d (.v (.bool false)))), none, 0⟩,
         ⟨some 4, .mv (.t 26), none, 0⟩])
       (.ret))
       (.skip))))))))
 (.seq (.reg false [⟨some 4, .mv (.c (.d (.v (.bool false)))), none, 0⟩])
 (.ret))
def K98_2 : CC := .reg false [⟨some 4, .mv (.c (.d (.v (.bool false)))), none, 0⟩]
/-- coatcheck/slab.Ready -/
def C98 : CF := ⟨2, [(4, none)],
 .seq K98_2 K98_1⟩
theorem c98 : coF Try.prog Try.f21 = some C98 := by kernel_rfl
def A98 : Ann := { keep := [0, 1, 4, 5, 7, 14, 15, 17], live := [] }
def E98 {Ω : Type} : Env Ω := econs 54 S94c (enil)
theorem e98 : GoodE Try.prog E98 := GoodE.cons g94c (GoodE.nil)
def K105_1 : CC := .seq (.reg false [⟨some 9, .mv (.t 0), none, 0⟩,
   ⟨some 10, .call (.c (.fn (.func 20) [] [])) [.t 9], none, 0⟩,
   ⟨some 8, .mv (.t 10), none, 0⟩,
   ⟨some 11, .ext 0 (.t 8), none, 0⟩,
   ⟨some 12, .ext 1 (.t 8), none, 0⟩,
   ⟨some 13, .ext 2 (.t 8), none, 0⟩,
   ⟨some 5, .mv (.t 11), none, 0⟩,
   ⟨some 6, .mv (.t 12), none, 0⟩,
   ⟨some 7, .mv (.t 13), none, 0⟩])
 (.seq (.seq (.reg false [⟨some 14, .mv (.t 5), none, 0⟩,
   ⟨some 15, .eq .int false (.t 14) (.c (.d (.v (.int .i64 0)))), none, 0⟩])
 (.cond 15 (.seq (.reg false [⟨some 4, .mv (.c (.d (.v (.bool true)))), none, 0⟩])
   (.ret))
   (.skip)))
 (.seq (.reg false [⟨some 16, .mv (.t 5), none, 0⟩,
   ⟨some 17, .eq .int false (.t 16) (.c (.d (.v (.int .i64 3)))), none, 0⟩,
   ⟨some 18, .mv (.t 17), none, 0⟩,
   ⟨some 19, .mv (.t 1), some (18, true), 0⟩,
   ⟨some 20, .bin .gtr (.t 19) (.c (.d (.v (.int .u64 1)))), some (18, true), 0⟩,
   ⟨some 21, .pick (.t 18) (.t 20) (.c (.d (.v (.bool false)))), none, 0⟩,
   ⟨some 22, .mv (.t 21), none, 0⟩,
   ⟨some 23, .mv (.t 1), some (22, true), 0⟩,
   ⟨some 24, .bin .sub (.t 23) (.c (.d (.v (.int .u64 2)))), some (22, true), 0⟩,
   ⟨some 25, .mv (.t 7), some (22, true), 0⟩,
   ⟨some 26, .bin .geq (.t 24) (.t 25), some (22, true), 0⟩,
   ⟨some 27, .pick (.t 22) (.t 26) (.c (.d (.v (.bool false)))), none, 0⟩,
   ⟨some 4, .mv (.t 27), none, 0⟩])
 (.ret)))
def K105_2 : CC := .reg false [⟨some 4, .mv (.c (.d (.v (.bool false)))), none, 0⟩]
/-- coatcheck/coatcheckref08.Ready -/
def C105 : CF := ⟨2, [(4, none)],
 .seq K105_2 K105_1⟩
theorem c105 : coF Try.prog Try.f22 = some C105 := by kernel_rfl
def A105 : Ann := { keep := [0, 1, 4, 5, 7, 15], live := [] }
def E105 {Ω : Type} : Env Ω := econs 20 S101c (enil)
theorem e105 : GoodE Try.prog E105 := GoodE.cons g101c (GoodE.nil)
/-- (coatcheck/plan.Plan).Home -/
def C96 : CF := ⟨2, [(4, none)],
 .seq (.reg false [⟨some 2, .box 75 8 (.t 0), none, 0⟩,
   ⟨some 4, .mv (.c (.d (.v (.int .i64 0)))), none, 0⟩])
 (.seq (.seq (.reg false [⟨some 5, .ld 8 true (.t 2), none, 0⟩,
   ⟨some 6, .mv (.t 1), none, 0⟩,
   ⟨some 7, .call (.c (.fn (.func 100) [] [])) [.t 5, .t 6], none, 0⟩,
   ⟨some 8, .bin .lss (.t 7) (.c (.d (.v (.int .i64 0)))), none, 0⟩])
 (.cond 8 (.seq (.reg false [⟨some 4, .mv (.c (.d (.v (.int .i64 (-1))))), none, 0⟩])
   (.ret))
   (.skip)))
 (.seq (.reg false [⟨some 9, .mv (.t 1), none, 0⟩,
   ⟨some 10, .fa 0 (.t 2), none, 0⟩,
   ⟨some 11, .fa 2 (.t 10), none, 0⟩,
   ⟨some 12, .ld 1 false (.t 11), none, 0⟩,
   ⟨some 13, .bin .quo (.t 9) (.t 12), none, 0⟩,
   ⟨some 4, .mv (.t 13), none, 0⟩])
 (.ret)))⟩
theorem c96 : coF Try.prog Try.f57 = some C96 := by kernel_rfl
def A96 : Ann := { keep := [0, 1, 2, 4, 8], live := [] }
def E96 {Ω : Type} : Env Ω := econs 100 S117 (enil)
theorem e96 : GoodE Try.prog E96 := GoodE.cons g117 (GoodE.nil)
end Go.Sx.Pr

/- Ready and Home of both layers: what they answer. -/
namespace Go.Sx.Pr
open Go Go.Sx Go.Sx.Md Go.Proofs
set_option maxRecDepth 100000
theorem n98 {Ω : Type} (K : SV → SH → Option Ω) (w e : Int) :
    sxFn E98 A98 C98 [U w, U e] [] K =
    br (uB w) (br (w % 16 == 0) (K (B true) []) (br (w % 16 == 3) (br (decide (e ≥ 2)) (K (B (decide (w / 65536 ≤ IntKind.wrap .u64 (e - 2)))) []) (K (B false) [])) (K (B false) []))) none := by kernel_rfl
theorem n105 {Ω : Type} (K : SV → SH → Option Ω) (w e : Int) :
    sxFn E105 A105 C105 [U w, U e] [] K =
    br (uB w) (br (w % 16 == 0) (K (B true) []) (br (w % 16 == 3) (br (decide (e > 1)) (K (B (decide (IntKind.wrap .u64 (e - 2) ≥ w / 65536))) []) (K (B false) [])) (K (B false) []))) none := by kernel_rfl
theorem n96 {Ω : Type} (K : SV → SH → Option Ω) (a b c d e f g l x : Int) :
    sxFn E96 A96 C96 [cfgS a b c d e f g l, I x] [] K =
    br (decide (atV a b c d e f g l 5 x 0 < 0)) (K (I (-1)) (H49 a b c d e f g l)) (br (c == 0) none (K (I (IntKind.wrap .i64 (Int.tdiv x c))) (H49 a b c d e f g l))) := by kernel_rfl

def FReady : List (List Int) → Option (Bool × SV × SH)
  | [[w], [e]] => some (uB w && uB e, B (readyV w e), [])
  | _ => none
theorem v98 {w e : Int} (hw : uB w = true) (he : uB e = true) : sxFn E98 A98 C98 [U w, U e] [] KS = some (B (readyV w e), []) := by
  have he' := uB_iff.1 he
  rw [n98, hw, br_t]
  unfold readyV
  cases h1 : (w % 16 == 0) with
  | true => rw [br_t]; rfl
  | false =>
    rw [br_f]
    cases h2 : (w % 16 == 3) with
    | false => rw [br_f]; rfl
    | true =>
      rw [br_t]
      by_cases h3 : 2 ≤ e
      · rw [decide_eq_true (show e ≥ 2 from h3), br_t]
        rw [show IntKind.wrap .u64 (e - 2) = e - 2 by rw [IntKind.wrap_u64]; omega]
        simp only [Bool.true_and, Bool.false_or]
      · rw [decide_eq_false (show ¬ e ≥ 2 from h3), br_f]
        rfl
theorem v105 {w e : Int} (hw : uB w = true) (he : uB e = true) : sxFn E105 A105 C105 [U w, U e] [] KS = some (B (readyV w e), []) := by
  have he' := uB_iff.1 he
  rw [n105, hw, br_t]
  unfold readyV
  cases h1 : (w % 16 == 0) with
  | true => rw [br_t]; rfl
  | false =>
    rw [br_f]
    cases h2 : (w % 16 == 3) with
    | false => rw [br_f]; rfl
    | true =>
      rw [br_t]
      by_cases h3 : 2 ≤ e
      · rw [decide_eq_true (show e > 1 by omega), br_t, decide_eq_true h3]
        rw [show IntKind.wrap .u64 (e - 2) = e - 2 by rw [IntKind.wrap_u64]; omega]
        simp only [Bool.true_and, Bool.false_or, ge_iff_le]
      · rw [decide_eq_false (show ¬ e > 1 by omega), br_f, decide_eq_false h3]
        rfl
def S98c {Ω : Type} : Spec Ω := conSpec [.i .u64, .i .u64] FReady
theorem g98c : Good1 Try.prog 21 S98c := conGood Try.func21 (by kernel_rfl) c98 e98 mix (A := A98) fun L r hr hl hF => by
  obtain ⟨q0, l0, rfl, z0, hl1⟩ := lenAs_cons hl
  obtain ⟨w, rfl⟩ := one_of' z0
  obtain ⟨q1, l1, rfl, z1, hl2⟩ := lenAs_cons hl1
  obtain ⟨e, rfl⟩ := one_of' z1
  have hz := lenAs_nil hl2
  subst hz
  simp only [FReady, Option.some.injEq, Prod.mk.injEq, Bool.and_eq_true] at hF
  obtain ⟨⟨hw, he⟩, rfl, rfl⟩ := hF
  exact ⟨trivial, trivial, [], trim_none rfl _, v98 hw he⟩
def S105c {Ω : Type} : Spec Ω := conSpec [.i .u64, .i .u64] FReady
theorem g105c : Good1 Try.prog 22 S105c := conGood Try.func22 (by kernel_rfl) c105 e105 mix (A := A105) fun L r hr hl hF => by
  obtain ⟨q0, l0, rfl, z0, hl1⟩ := lenAs_cons hl
  obtain ⟨w, rfl⟩ := one_of' z0
  obtain ⟨q1, l1, rfl, z1, hl2⟩ := lenAs_cons hl1
  obtain ⟨e, rfl⟩ := one_of' z1
  have hz := lenAs_nil hl2
  subst hz
  simp only [FReady, Option.some.injEq, Prod.mk.injEq, Bool.and_eq_true] at hF
  obtain ⟨⟨hw, he⟩, rfl, rfl⟩ := hF
  exact ⟨trivial, trivial, [], trim_none rfl _, v105 hw he⟩

section
variable (a b c d e f g l x : Int)
theorem x96 : sxFn E96 A96 C96 [cfgS a b c d e f g l, I x] [] KS = some (I (homeV ⟨a, b, c, d, e, f, g, l⟩ x), H49 a b c d e f g l) := by
  rw [n96]
  unfold homeV chkC
  by_cases hc : chk a b c d e f g l = 0
  · obtain ⟨⟨a1, a2⟩, ⟨b1, b2⟩, ⟨c1, c2⟩, ⟨d1, d2⟩, ⟨e1, e2⟩, _⟩ := chk_zero hc
    rw [at5 hc]
    simp only [hc, beq_self_eq_true, Bool.true_and]
    by_cases h : 0 ≤ x ∧ x < b * c
    · have hp : 0 ≤ (1 + d) * x := Int.mul_nonneg (by omega) h.1
      rw [if_pos h, decide_eq_false (by omega), br_f, show (c == 0) = false by simp; omega, br_f, decide_eq_true h.1, decide_eq_true h.2, Bool.true_and, cond_true]
      have hd : Int.tdiv x c = x / c := Int.tdiv_eq_ediv_of_nonneg h.1
      have h0 : 0 ≤ x / c := Int.ediv_nonneg h.1 (by omega)
      have h1 : x / c < b := Int.ediv_lt_of_lt_mul (by omega) h.2
      rw [hd, w64 (by omega) (by omega)]
    · rw [if_neg h, decide_eq_true (by omega), br_t]
      have : (decide (0 ≤ x) && decide (x < b * c)) = false := by
        rw [Bool.and_eq_false_iff, decide_eq_false_iff_not, decide_eq_false_iff_not]
        by_cases h1 : 0 ≤ x
        · exact .inr fun h2 => h ⟨h1, h2⟩
        · exact .inl h1
      rw [this, cond_false]
  · rw [atV_bad hc, decide_eq_true (by omega), br_t]
    have : (chk a b c d e f g l == 0) = false := by simp [hc]
    simp only [this, Bool.false_and, cond_false]

end
def FHome : List (List Int) → Option (Bool × SV × SH)
  | [[a, b, c, d, e, f, g, l], [i]] => some (true, I (homeV ⟨a, b, c, d, e, f, g, l⟩ i), [])
  | _ => none
def S96c {Ω : Type} : Spec Ω := conSpec [.g cfgK, .i .i64] FHome
theorem g96c : Good1 Try.prog 57 S96c := conGood Try.func57 (by kernel_rfl) c96 e96 mix (A := A96) fun L r hr hl hF => by
  obtain ⟨p, q, rfl, hp, s, q2, rfl, hs, hq⟩ := hl
  simp only [lenAs] at hq
  subst hq
  obtain ⟨a, b, c, d, e, f, g, l, rfl⟩ := eight hp
  obtain ⟨i, rfl⟩ := one_of hs
  simp only [FHome, Option.some.injEq, Prod.mk.injEq, true_and] at hF
  obtain ⟨rfl, rfl⟩ := hF
  exact ⟨trivial, trivial, _, trim_none rfl _, x96 a b c d e f g l i⟩
end Go.Sx.Pr

namespace Go.Sx.Pr
open Go Go.Sx Go.Proofs
set_option maxRecDepth 100000
/-- coatcheck/slab.Step$1 -/
def C93 : CF := ⟨3, [],
 .seq (.reg false [⟨some 4, .fa 0 (.t 1), none, 0⟩,
   ⟨none, .st 1 (.t 4) (.c (.d (.v (.int .i64 0)))), none, 0⟩,
   ⟨none, .st 1 (.t 2) (.c (.d (.v (.int .i64 2)))), none, 0⟩])
 (.seq (.reg false [⟨some 5, .mv (.t 0), none, 0⟩])
 (.cond 5 (.reg false [⟨none, .st 1 (.t 2) (.c (.d (.v (.int .i64 1)))), none, 0⟩])
   (.skip)))⟩
theorem c93 : coF Try.prog Try.f53 = some C93 := by kernel_rfl
def A93 : Ann := { keep := [0, 1, 2, 5], live := [] }
def E93 {Ω : Type} : Env Ω := enil
theorem e93 : GoodE Try.prog E93 := GoodE.nil
def S93 {Ω : Type} : Spec Ω := inl E93 A93 C93 false
theorem g93 : Good1 Try.prog 53 S93 := Good1.inl e93 mix Try.func53 (by kernel_rfl) c93 A93 false
/-- coatcheck/slab.draining -/
def C99 : CF := ⟨1, [(2, none)],
 .seq (.reg false [⟨some 2, .mv (.c (.d (.v (.bool false)))), none, 0⟩])
 (.seq (.reg false [⟨some 7, .mv (.t 0), none, 0⟩,
   ⟨some 8, .call (.c (.fn (.func 54) [] [])) [.t 7], none, 0⟩,
   ⟨some 6, .mv (.t 8), none, 0⟩,
   ⟨some 9, .ext 0 (.t 6), none, 0⟩,
   ⟨some 10, .ext 1 (.t 6), none, 0⟩,
   ⟨some 11, .ext 2 (.t 6), none, 0⟩,
   ⟨some 3, .mv (.t 9), none, 0⟩,
   ⟨some 4, .mv (.t 10), none, 0⟩,
   ⟨some 5, .mv (.t 11), none, 0⟩])
 (.seq (.reg false [⟨some 12, .mv (.t 3), none, 0⟩,
   ⟨some 13, .eq .int false (.t 12) (.c (.d (.v (.int .i64 2)))), none, 0⟩,
   ⟨some 2, .mv (.t 13), none, 0⟩])
 (.ret)))⟩
theorem c99 : coF Try.prog Try.f61 = some C99 := by kernel_rfl
def A99 : Ann := { keep := [0, 2, 3], live := [] }
def E99 {Ω : Type} : Env Ω := econs 54 S94c (enil)
theorem e99 : GoodE Try.prog E99 := GoodE.cons g94c (GoodE.nil)
def S99 {Ω : Type} : Spec Ω := inl E99 A99 C99 false
theorem g99 : Good1 Try.prog 61 S99 := Good1.inl e99 mix Try.func61 (by kernel_rfl) c99 A99 false
def K61_1 : CC := .seq (.reg true [⟨some 222, .ld 33 true (.t 3), none, 0⟩,
   ⟨some 223, .ld 1 false (.t 7), none, 0⟩,
   ⟨none, .st 33 (.t 4) (.t 222), none, 1⟩,
   ⟨some 5, .mv (.t 223), none, 7⟩,
   ⟨some 6, .mv (.c (.d (.v (.bool true)))), none, 15⟩])
 (.ret)
def K61_2 : CC := .seq (.seq (.reg false [⟨some 87, .mv (.t 10), none, 0⟩,
   ⟨some 88, .mv (.t 0), none, 0⟩,
   ⟨some 89, .nilc (.t 88), none, 0⟩,
   ⟨some 90, .fa 0 (.t 89), none, 0⟩,
   ⟨some 91, .fa 0 (.t 90), none, 0⟩,
   ⟨some 92, .fa 2 (.t 91), none, 0⟩,
   ⟨some 93, .ld 1 false (.t 92), none, 0⟩,
   ⟨some 94, .eq .int false (.t 87) (.t 93), none, 0⟩])
 (.cond 94 (.seq (.reg false [⟨some 95, .fa 0 (.t 3), none, 0⟩,
     ⟨none, .st 1 (.t 95) (.c (.d (.v (.int .i64 31)))), none, 0⟩])
   (.exit 0))
   (.skip)))
 (.seq (.reg false [⟨some 96, .fa 19 (.t 3), none, 0⟩,
   ⟨none, .st 1 (.t 96) (.c (.d (.v (.int .i64 0)))), none, 0⟩])
 (.reg false [⟨some 97, .mv (.t 8), none, 0⟩,
   ⟨some 98, .call (.t 97) [.c (.d (.v (.bool true)))], none, 0⟩]))
def K61_3 : CC := .reg true [⟨some 67, .mv (.t 0), none, 0⟩,
   ⟨some 68, .mv (.t 0), none, 0⟩,
   ⟨some 69, .nilc (.t 68), none, 2⟩,
   ⟨some 70, .fa 0 (.t 69), none, 6⟩,
   ⟨some 71, .ld 8 true (.t 70), none, 14⟩,
   ⟨some 72, .mv (.t 0), none, 0⟩,
   ⟨some 73, .nilc (.t 72), none, 32⟩,
   ⟨some 74, .fa 0 (.t 73), none, 96⟩,
   ⟨some 75, .ld 8 true (.t 74), none, 224⟩,
   ⟨some 76, .fa 19 (.t 3), none, 0⟩,
   ⟨some 77, .ld 1 false (.t 76), none, 512⟩,
   ⟨some 78, .bin .sub (.t 77) (.c (.d (.v (.int .i64 1)))), none, 1536⟩,
   ⟨some 79, .call (.c (.fn (.func 57) [] [])) [.t 75, .t 78], none, 4064⟩,
   ⟨some 80, .call (.c (.fn (.func 56) [] [])) [.t 71, .t 79], none, 8190⟩,
   ⟨some 81, .call (.c (.fn (.func 55) [] [])) [.t 67, .t 80, .c (.d (.v (.int .u64 16)))], none, 16383⟩,
   ⟨some 82, .bin .add (.t 81) (.c (.d (.v (.int .u64 16)))), none, 32767⟩,
   ⟨some 83, .call (.c (.fn (.func 54) [] [])) [.t 82], none, 65535⟩,
   ⟨some 66, .mv (.t 83), none, 131071⟩,
   ⟨some 84, .ext 0 (.t 66), none, 262143⟩,
   ⟨some 85, .ext 1 (.t 66), none, 262143⟩,
   ⟨some 86, .ext 2 (.t 66), none, 262143⟩,
   ⟨some 9, .mv (.t 84), none, 524287⟩,
   ⟨some 10, .mv (.t 85), none, 3145727⟩,
   ⟨some 11, .mv (.t 86), none, 8388607⟩]
def K61_4 : CC := .seq (.reg false [⟨some 101, .mv (.t 0), none, 0⟩,
   ⟨some 102, .call (.c (.fn (.func 58) [] [])) [.t 101, .c (.d (.v (.int .i64 0)))], none, 0⟩,
   ⟨some 103, .fa 25 (.t 3), none, 0⟩,
   ⟨none, .st 1 (.t 103) (.t 102), none, 0⟩])
 (.reg false [⟨some 104, .fa 0 (.t 3), none, 0⟩,
   ⟨none, .st 1 (.t 104) (.c (.d (.v (.int .i64 32)))), none, 0⟩])
def K61_5 : CC := .seq (.reg true [⟨some 107, .mv (.t 0), none, 0⟩,
   ⟨some 108, .mv (.t 0), none, 0⟩,
   ⟨some 109, .nilc (.t 108), none, 2⟩,
   ⟨some 110, .fa 0 (.t 109), none, 6⟩,
   ⟨some 111, .ld 8 true (.t 110), none, 14⟩,
   ⟨some 112, .mv (.t 0), none, 0⟩,
   ⟨some 113, .nilc (.t 112), none, 32⟩,
   ⟨some 114, .fa 0 (.t 113), none, 96⟩,
   ⟨some 115, .ld 8 true (.t 114), none, 224⟩,
   ⟨some 116, .fa 19 (.t 3), none, 0⟩,
   ⟨some 117, .ld 1 false (.t 116), none, 512⟩,
   ⟨some 118, .bin .sub (.t 117) (.c (.d (.v (.int .i64 1)))), none, 1536⟩,
   ⟨some 119, .call (.c (.fn (.func 57) [] [])) [.t 115, .t 118], none, 4064⟩,
   ⟨some 120, .call (.c (.fn (.func 56) [] [])) [.t 111, .t 119], none, 8190⟩,
   ⟨some 121, .fa 25 (.t 3), none, 0⟩,
   ⟨some 122, .ld 1 false (.t 121), none, 16384⟩,
   ⟨some 123, .call (.c (.fn (.func 59) [] [])) [.c (.d (.v (.int .i64 3))), .c (.d (.v (.int .i64 0))), .t 122], none, 65534⟩,
   ⟨some 124, .call (.c (.fn (.func 13) [] [])) [.t 107, .t 120, .t 123], none, 131071⟩])
 (.seq (.reg false [⟨some 125, .fa 19 (.t 3), none, 0⟩,
   ⟨none, .st 1 (.t 125) (.c (.d (.v (.int .i64 0)))), none, 0⟩])
 (.reg false [⟨some 126, .mv (.t 8), none, 0⟩,
   ⟨some 127, .call (.t 126) [.c (.d (.v (.bool true)))], none, 0⟩]))
def K61_6 : CC := .seq (.seq (.reg false [⟨some 140, .fa 25 (.t 3), none, 0⟩,
   ⟨some 141, .ld 1 false (.t 140), none, 0⟩,
   ⟨some 142, .fa 9 (.t 3), none, 0⟩,
   ⟨some 143, .ld 1 false (.t 142), none, 0⟩,
   ⟨some 144, .call (.c (.fn (.func 21) [] [])) [.t 141, .t 143], none, 0⟩])
 (.cond 144 (.seq (.reg false [⟨some 145, .fa 0 (.t 3), none, 0⟩,
     ⟨none, .st 1 (.t 145) (.c (.d (.v (.int .i64 34)))), none, 0⟩])
   (.exit 0))
   (.skip)))
 (.seq (.seq (.reg true [⟨some 146, .fa 28 (.t 3), none, 0⟩,
   ⟨some 147, .ld 1 false (.t 146), none, 1⟩,
   ⟨some 148, .mv (.t 0), none, 0⟩,
   ⟨some 149, .nilc (.t 148), none, 4⟩,
   ⟨some 150, .fa 0 (.t 149), none, 12⟩,
   ⟨some 151, .fa 0 (.t 150), none, 28⟩,
   ⟨some 152, .fa 1 (.t 151), none, 60⟩,
   ⟨some 153, .ld 1 false (.t 152), none, 124⟩,
   ⟨some 154, .bin .sub (.t 153) (.c (.d (.v (.int .i64 1)))), none, 252⟩,
   ⟨some 155, .bin .geq (.t 147) (.t 154), none, 511⟩])
 (.cond 155 (.reg false [⟨some 156, .mv (.t 8), none, 0⟩,
     ⟨some 157, .call (.t 156) [.c (.d (.v (.bool false)))], none, 0⟩])
   (.skip)))
 (.reg false [⟨some 158, .fa 28 (.t 3), none, 0⟩,
   ⟨some 159, .ld 1 false (.t 158), none, 0⟩,
   ⟨some 160, .bin .add (.t 159) (.c (.d (.v (.int .i64 1)))), none, 0⟩,
   ⟨some 161, .fa 28 (.t 3), none, 0⟩,
   ⟨none, .st 1 (.t 161) (.t 160), none, 0⟩]))
def K61_7 : CC := .reg true [⟨some 130, .mv (.t 0), none, 0⟩,
   ⟨some 131, .mv (.t 0), none, 0⟩,
   ⟨some 132, .nilc (.t 131), none, 2⟩,
   ⟨some 133, .fa 0 (.t 132), none, 6⟩,
   ⟨some 134, .ld 8 true (.t 133), none, 14⟩,
   ⟨some 135, .fa 28 (.t 3), none, 0⟩,
   ⟨some 136, .ld 1 false (.t 135), none, 32⟩,
   ⟨some 137, .call (.c (.fn (.func 56) [] [])) [.t 134, .t 136], none, 126⟩,
   ⟨some 138, .call (.c (.fn (.func 58) [] [])) [.t 130, .t 137], none, 255⟩,
   ⟨some 139, .fa 25 (.t 3), none, 511⟩,
   ⟨none, .st 1 (.t 139) (.t 138), none, 1023⟩]
def K61_8 : CC := .seq (.reg true [⟨some 164, .mv (.t 0), none, 0⟩,
   ⟨some 165, .mv (.t 0), none, 0⟩,
   ⟨some 166, .nilc (.t 165), none, 2⟩,
   ⟨some 167, .fa 0 (.t 166), none, 6⟩,
   ⟨some 168, .ld 8 true (.t 167), none, 14⟩,
   ⟨some 169, .fa 28 (.t 3), none, 0⟩,
   ⟨some 170, .ld 1 false (.t 169), none, 32⟩,
   ⟨some 171, .call (.c (.fn (.func 56) [] [])) [.t 168, .t 170], none, 126⟩,
   ⟨some 172, .fa 25 (.t 3), none, 0⟩,
   ⟨some 173, .ld 1 false (.t 172), none, 256⟩,
   ⟨some 174, .call (.c (.fn (.func 59) [] [])) [.c (.d (.v (.int .i64 1))), .c (.d (.v (.int .i64 0))), .c (.d (.v (.int .u64 0)))], none, 254⟩,
   ⟨some 175, .call (.c (.fn (.func 60) [] [])) [.t 164, .t 171, .t 173, .t 174], none, 2047⟩])
 (.cond 175 (.reg false [⟨some 176, .mv (.t 8), none, 0⟩,
     ⟨some 177, .call (.t 176) [.c (.d (.v (.bool true)))], none, 0⟩])
   (.reg false [⟨some 178, .fa 0 (.t 3), none, 0⟩,
     ⟨none, .st 1 (.t 178) (.c (.d (.v (.int .i64 33)))), none, 0⟩]))
def K61_9 : CC := .seq (.reg false [⟨some 193, .fa 25 (.t 3), none, 0⟩,
   ⟨some 194, .ld 1 false (.t 193), none, 0⟩,
   ⟨some 195, .call (.c (.fn (.func 54) [] [])) [.t 194], none, 0⟩,
   ⟨some 192, .mv (.t 195), none, 0⟩,
   ⟨some 196, .ext 0 (.t 192), none, 0⟩,
   ⟨some 197, .ext 1 (.t 192), none, 0⟩,
   ⟨some 198, .ext 2 (.t 192), none, 0⟩,
   ⟨some 12, .mv (.t 196), none, 0⟩,
   ⟨some 13, .mv (.t 197), none, 0⟩,
   ⟨some 14, .mv (.t 198), none, 0⟩])
 (.seq (.reg false [⟨some 199, .mv (.t 12), none, 0⟩,
   ⟨some 200, .eq .int true (.t 199) (.c (.d (.v (.int .i64 1)))), none, 0⟩])
 (.cond 200 (.reg false [⟨some 201, .mv (.t 8), none, 0⟩,
     ⟨some 202, .call (.t 201) [.c (.d (.v (.bool false)))], none, 0⟩])
   (.reg false [⟨some 203, .fa 0 (.t 3), none, 0⟩,
     ⟨none, .st 1 (.t 203) (.c (.d (.v (.int .i64 37)))), none, 0⟩])))
def K61_10 : CC := .reg true [⟨some 181, .mv (.t 0), none, 0⟩,
   ⟨some 182, .mv (.t 0), none, 0⟩,
   ⟨some 183, .nilc (.t 182), none, 2⟩,
   ⟨some 184, .fa 0 (.t 183), none, 6⟩,
   ⟨some 185, .ld 8 true (.t 184), none, 14⟩,
   ⟨some 186, .fa 1 (.t 3), none, 0⟩,
   ⟨some 187, .fa 3 (.t 186), none, 32⟩,
   ⟨some 188, .ld 1 false (.t 187), none, 96⟩,
   ⟨some 189, .call (.c (.fn (.func 56) [] [])) [.t 185, .t 188], none, 254⟩,
   ⟨some 190, .call (.c (.fn (.func 58) [] [])) [.t 181, .t 189], none, 511⟩,
   ⟨some 191, .fa 25 (.t 3), none, 1023⟩,
   ⟨none, .st 1 (.t 191) (.t 190), none, 2047⟩]
def K61_11 : CC := .seq (.reg true [⟨some 206, .mv (.t 0), none, 0⟩,
   ⟨some 207, .mv (.t 0), none, 0⟩,
   ⟨some 208, .nilc (.t 207), none, 2⟩,
   ⟨some 209, .fa 0 (.t 208), none, 6⟩,
   ⟨some 210, .ld 8 true (.t 209), none, 14⟩,
   ⟨some 211, .fa 1 (.t 3), none, 0⟩,
   ⟨some 212, .fa 3 (.t 211), none, 32⟩,
   ⟨some 213, .ld 1 false (.t 212), none, 96⟩,
   ⟨some 214, .call (.c (.fn (.func 56) [] [])) [.t 210, .t 213], none, 254⟩,
   ⟨some 215, .fa 25 (.t 3), none, 0⟩,
   ⟨some 216, .ld 1 false (.t 215), none, 512⟩,
   ⟨some 217, .call (.c (.fn (.func 59) [] [])) [.c (.d (.v (.int .i64 2))), .c (.d (.v (.int .i64 0))), .c (.d (.v (.int .u64 0)))], none, 510⟩,
   ⟨some 218, .call (.c (.fn (.func 60) [] [])) [.t 206, .t 214, .t 216, .t 217], none, 4095⟩])
 (.cond 218 (.reg false [⟨some 219, .mv (.t 8), none, 0⟩,
     ⟨some 220, .call (.t 219) [.c (.d (.v (.bool true)))], none, 0⟩])
   (.reg false [⟨some 221, .fa 0 (.t 3), none, 0⟩,
     ⟨none, .st 1 (.t 221) (.c (.d (.v (.int .i64 36)))), none, 0⟩]))
def K61_12 : CC := .seq (.seq (.reg false [⟨some 41, .fa 0 (.t 3), none, 0⟩,
   ⟨some 42, .ld 1 false (.t 41), none, 0⟩,
   ⟨some 43, .eq .int false (.t 42) (.c (.d (.v (.int .i64 35)))), none, 0⟩])
 (.cond 43 (.reg false [⟨some 44, .fa 18 (.t 3), none, 0⟩,
     ⟨some 45, .ld 1 false (.t 44), none, 0⟩,
     ⟨some 15, .mv (.t 45), none, 0⟩])
   (.skip)))
 (.reg true [⟨some 46, .mv (.t 8), none, 0⟩,
   ⟨some 47, .mv (.t 0), none, 0⟩,
   ⟨some 48, .mv (.t 0), none, 0⟩,
   ⟨some 49, .nilc (.t 48), none, 4⟩,
   ⟨some 50, .fa 0 (.t 49), none, 12⟩,
   ⟨some 51, .ld 8 true (.t 50), none, 28⟩,
   ⟨some 52, .mv (.t 0), none, 0⟩,
   ⟨some 53, .nilc (.t 52), none, 64⟩,
   ⟨some 54, .fa 0 (.t 53), none, 192⟩,
   ⟨some 55, .ld 8 true (.t 54), none, 448⟩,
   ⟨some 56, .mv (.t 15), none, 0⟩,
   ⟨some 57, .bin .sub (.t 56) (.c (.d (.v (.int .i64 1)))), none, 1024⟩,
   ⟨some 58, .call (.c (.fn (.func 57) [] [])) [.t 55, .t 57], none, 4032⟩,
   ⟨some 59, .call (.c (.fn (.func 56) [] [])) [.t 51, .t 58], none, 8188⟩,
   ⟨some 60, .call (.c (.fn (.func 58) [] [])) [.t 47, .t 59], none, 16382⟩,
   ⟨some 61, .call (.c (.fn (.func 61) [] [])) [.t 60], none, 32766⟩,
   ⟨some 62, .un .not (.t 61), none, 65534⟩,
   ⟨some 63, .call (.t 46) [.t 62], none, 131071⟩])
def K61_13 : CC := .reg false [⟨some 39, .fa 19 (.t 3), none, 0⟩,
   ⟨some 40, .ld 1 false (.t 39), none, 0⟩,
   ⟨some 15, .mv (.t 40), none, 0⟩]
def K61_14 : CC := .reg false [⟨some 205, .eq .int false (.t 38) (.c (.d (.v (.int .i64 37)))), none, 0⟩,
   ⟨some 204, .mv (.t 205), none, 0⟩]
def K61_15 : CC := .reg false [⟨some 180, .eq .int false (.t 38) (.c (.d (.v (.int .i64 36)))), none, 0⟩,
   ⟨some 179, .mv (.t 180), none, 0⟩]
def K61_16 : CC := .reg false [⟨some 163, .eq .int false (.t 38) (.c (.d (.v (.int .i64 34)))), none, 0⟩,
   ⟨some 162, .mv (.t 163), none, 0⟩]
def K61_17 : CC := .reg false [⟨some 129, .eq .int false (.t 38) (.c (.d (.v (.int .i64 33)))), none, 0⟩,
   ⟨some 128, .mv (.t 129), none, 0⟩]
def K61_18 : CC := .reg false [⟨some 106, .eq .int false (.t 38) (.c (.d (.v (.int .i64 32)))), none, 0⟩,
   ⟨some 105, .mv (.t 106), none, 0⟩]
def K61_19 : CC := .reg false [⟨some 100, .eq .int false (.t 38) (.c (.d (.v (.int .i64 31)))), none, 0⟩,
   ⟨some 99, .mv (.t 100), none, 0⟩]
def K61_20 : CC := .reg false [⟨some 65, .eq .int false (.t 38) (.c (.d (.v (.int .i64 30)))), none, 0⟩,
   ⟨some 64, .mv (.t 65), none, 0⟩]
def K61_21 : CC := .reg false [⟨some 37, .fa 0 (.t 3), none, 0⟩,
   ⟨some 38, .ld 1 false (.t 37), none, 0⟩]
def K61_22 : CC := .reg false [⟨some 36, .mkf (.func 53) [] [.t 3, .t 7], none, 0⟩,
   ⟨some 8, .mv (.t 36), none, 0⟩]
def K61_23 : CC := .reg false [⟨some 7, .newc 3 [.d (.v (.int .i64 0))], none, 0⟩,
   ⟨none, .st 1 (.t 7) (.c (.d (.v (.int .i64 0)))), none, 0⟩]
def K61_24 : CC := .reg false [⟨some 34, .mv (.t 0), none, 0⟩,
   ⟨some 35, .call (.c (.fn (.func 52) [] [])) [.t 34], none, 0⟩]
def K61_25 : CC := .seq (.reg false [⟨some 16, .mv (.t 0), none, 0⟩,
   ⟨some 17, .eq .ptr false (.t 16) (.c (.d (.v (.pointer none)))), none, 0⟩,
   ⟨some 18, .mv (.t 17), none, 0⟩,
   ⟨some 19, .fa 0 (.t 3), some (18, false), 0⟩,
   ⟨some 20, .ld 1 false (.t 19), some (18, false), 0⟩,
   ⟨some 21, .bin .lss (.t 20) (.c (.d (.v (.int .i64 30)))), some (18, false), 0⟩,
   ⟨some 22, .pick (.t 18) (.c (.d (.v (.bool true)))) (.t 21), none, 0⟩,
   ⟨some 23, .mv (.t 22), none, 0⟩,
   ⟨some 24, .fa 0 (.t 3), some (23, false), 0⟩,
   ⟨some 25, .ld 1 false (.t 24), some (23, false), 0⟩,
   ⟨some 26, .bin .gtr (.t 25) (.c (.d (.v (.int .i64 39)))), some (23, false), 0⟩,
   ⟨some 27, .pick (.t 23) (.c (.d (.v (.bool true)))) (.t 26), none, 0⟩,
   ⟨some 28, .mv (.t 27), none, 0⟩,
   ⟨some 29, .fa 0 (.t 3), some (28, false), 0⟩,
   ⟨some 30, .ld 1 false (.t 29), some (28, false), 0⟩,
   ⟨some 31, .eq .int false (.t 30) (.c (.d (.v (.int .i64 38)))), some (28, false), 0⟩,
   ⟨some 32, .pick (.t 28) (.c (.d (.v (.bool true)))) (.t 31), none, 0⟩])
 (.cond 32 (.seq (.reg false [⟨some 33, .ld 33 true (.t 3), none, 0⟩,
     ⟨none, .st 33 (.t 4) (.t 33), none, 0⟩,
     ⟨some 5, .mv (.c (.d (.v (.int .i64 0)))), none, 0⟩,
     ⟨some 6, .mv (.c (.d (.v (.bool false)))), none, 0⟩])
   (.ret))
   (.skip))
def K61_26 : CC := .reg false [⟨some 3, .box 40 33 (.t 1), none, 0⟩,
   ⟨some 4, .newc 40 [.d (.v (.int .i64 0)), .d (.v (.int .i64 0)), .d (.v (.int .u64 0)), .d (.v (.int .u64 0)), .d (.v (.int .i64 0)), .d (.v (.bool false)), .d (.v (.int .i64 0)), .d (.v (.int .i64 0)), .d (.v (.bool false)), .d (.v (.int .u64 0)), .d (.v (.slice none 0 0)), .d (.v (.int .u64 0)), .d (.v (.slice none 0 0)), .d (.v (.int .u64 0)), .d (.v (.slice none 0 0)), .d (.v (.int .u64 0)), .d (.v (.slice none 0 0)), .d (.v (.slice none 0 0)), .d (.v (.int .i64 0)), .d (.v (.int .i64 0)), .d (.v (.int .i64 0)), .d (.v (.int .i64 0)), .d (.v (.int .i64 0)), .d (.v (.int .u64 0)), .d (.v (.int .u64 0)), .d (.v (.int .u64 0)), .d (.v (.int .u64 0)), .d (.v (.int .u64 0)), .d (.v (.int .i64 0)), .d (.v (.slice none 0 0)), .d (.v (.int .u64 0)), .d (.v (.int .i64 0)), .d (.v (.bool false))], none, 0⟩,
   ⟨some 5, .mv (.c (.d (.v (.int .i64 0)))), none, 0⟩,
   ⟨some 6, .mv (.c (.d (.v (.bool false)))), none, 0⟩]
/-- coatcheck/slab.Step -/
def C61 : CF := ⟨2, [(4, some (33, true)), (5, none), (6, none)],
 .seq K61_26 (.seq K61_25 (.seq K61_24 (.seq K61_23 (.seq K61_22 (.seq (.seq K61_21 (.block 0 (.seq K61_20 (.cond 64 (.seq K61_3 K61_2) (.seq K61_19 (.cond 99 K61_4 (.seq K61_18 (.cond 105 K61_5 (.seq K61_17 (.cond 128 (.seq K61_7 K61_6) (.seq K61_16 (.cond 162 K61_8 (.seq K61_15 (.cond 179 (.seq K61_10 K61_9) (.seq K61_14 (.cond 204 K61_11 (.seq K61_13 K61_12))))))))))))))))) K61_1)))))⟩
theorem c61 : coF Try.prog Try.f15 = some C61 := by kernel_rfl
def A61 : Ann := { keep := [0, 1, 3, 4, 5, 6, 7, 8, 10, 12, 15, 32, 38, 43, 64, 94, 99, 105, 128, 144, 155, 162, 175, 179, 200, 204, 218], live := [] }
def E61 {Ω : Type} : Env Ω := econs 13 S23m (econs 21 S98c (econs 52 S29m (econs 58 S21m (econs 60 S25m (econs 53 S93 (econs 54 S94c (econs 55 S27m (econs 56 S95 (econs 57 S96c (econs 59 S97c (econs 61 S99 (enil))))))))))))
theorem e61 : GoodE Try.prog E61 := GoodE.cons g23m (GoodE.cons g98c (GoodE.cons g29m (GoodE.cons g21m (GoodE.cons g25m (GoodE.cons g93 (GoodE.cons g94c (GoodE.cons g27m (GoodE.cons g95 (GoodE.cons g96c (GoodE.cons g97c (GoodE.cons g99 (GoodE.nil))))))))))))
end Go.Sx.Pr
