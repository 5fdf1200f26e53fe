/- Pieces of the code of functions, compiled for the symbolic interpreter, each checked against the program; no conditions. -/
import Derived.Test.YtibleafpbfbccaaR11
import Derived.Test.YtibleafpbfbccaaRows
import Derived.KernelRfl
import Derived.Test.YtibleafpbfbccaaR9
import Derived.Test.YtibleafpbfbccaaR9
set_option linter.all false
set_option linter.unusedVariables false
set_option linter.unusedSimpArgs false
set_option linter.unnecessarySimpa false
namespace Go.Sx.Pr
open Go Go.Sx Go.Proofs
set_option maxRecDepth 100000
def K98_1 : CC := .seq (.seq (.reg false [⟨some 9, .mv (.t 0), none, 0⟩,
   ⟨some 10, .call (.c (.fn (.func 37) [] [])) [.t 9], none, 0⟩,
   ⟨some 8, .mv (.t 10), none, 0⟩,
   ⟨some 11, .ext 0 (.t 8), none, 0⟩,
   ⟨some 12, .ext 1 (.t 8), none, 0⟩,
   ⟨some 13, .ext 2 (.t 8), none, 0⟩,
   ⟨some 5, .mv (.t 11), none, 0⟩,
   ⟨some 6, .mv (.t 12), none, 0⟩,
   ⟨some 7, .mv (.t 13), none, 0⟩])
 (.seq (.reg false [⟨some 14, .mv (.t 5), none, 0⟩])
 (.block 0 (.seq (.reg false [⟨some 16, .eq .int false (.t 14) (.c (.d (.v (.int .i64 0)))), none, 0⟩,
     ⟨some 15, .mv (.t 16), none, 0⟩])
   (.cond 15 (.seq (.reg false [⟨some 4, .mv (.c (.d (.v (.bool true)))), none, 0⟩])
     (.ret))
     (.seq (.reg false [⟨some 18, .eq .int false (.t 14) (.c (.d (.v (.int .i64 3)))), none, 0⟩,
       ⟨some 17, .mv (.t 18), none, 0⟩])
     (.cond 17 (.seq (.reg false [⟨some 19, .mv (.t 1), none, 0⟩,
         ⟨some 20, .bin .geq (.t 19) (.c (.d (.v (.int .u64 2)))), none, 0⟩,
         ⟨some 21, .mv (.t 20), none, 0⟩,
         ⟨some 22, .mv (.t 7), some (21, true), 0⟩,
         ⟨some 23, .mv (.t 1), some (21, true), 0⟩,
         ⟨some 24, .bin .sub (.t 23) (.c (.d (.v (.int .u64 2)))), some (21, true), 0⟩,
         ⟨some 25, .bin .leq (.t 22) (.t 24), some (21, true), 0⟩,
         ⟨some 26, .pick (.t 21) (.t 25) (.c (.d (.v (.bool false)))), none, 0⟩,
         ⟨some 4, .mv (.t 26), none, 0⟩])
       (.ret))
       (.skip))))))))
 (.seq (.reg false [⟨some 4, .mv (.c (.d (.v (.bool false)))), none, 0⟩])
 (.ret))
def K98_2 : CC := .reg false [⟨some 4, .mv (.c (.d (.v (.bool false)))), none, 0⟩]
/-- coatcheck/slab.Ready -/
def C98 : CF := ⟨2, [(4, none)],
 .seq K98_2 K98_1⟩
theorem c98 : coF Try.prog Try.f42 = some C98 := by kernel_rfl
def A98 : Ann := { keep := [0, 1, 4, 5, 7, 14, 15, 17], live := [] }
def E98 {Ω : Type} : Env Ω := econs 37 S94c (enil)
theorem e98 : GoodE Try.prog E98 := GoodE.cons g94c (GoodE.nil)
/-- (coatcheck/plan.Plan).Home -/
def C96 : CF := ⟨2, [(4, none)],
 .seq (.reg false [⟨some 2, .box 57 8 (.t 0), none, 0⟩,
   ⟨some 4, .mv (.c (.d (.v (.int .i64 0)))), none, 0⟩])
 (.seq (.seq (.reg false [⟨some 5, .ld 8 true (.t 2), none, 0⟩,
   ⟨some 6, .mv (.t 1), none, 0⟩,
   ⟨some 7, .call (.c (.fn (.func 56) [] [])) [.t 5, .t 6], none, 0⟩,
   ⟨some 8, .bin .lss (.t 7) (.c (.d (.v (.int .i64 0)))), none, 0⟩])
 (.cond 8 (.seq (.reg false [⟨some 4, .mv (.c (.d (.v (.int .i64 (-1))))), none, 0⟩])
   (.ret))
   (.skip)))
 (.seq (.reg false [⟨some 9, .mv (.t 1), none, 0⟩,
   ⟨some 10, .fa 0 (.t 2), none, 0⟩,
   ⟨some 11, .fa 2 (.t 10), none, 0⟩,
   ⟨some 12, .ld 1 false (.t 11), none, 0⟩,
   ⟨some 13, .bin .quo (.t 9) (.t 12), none, 0⟩,
   ⟨some 4, .mv (.t 13), none, 0⟩])
 (.ret)))⟩
theorem c96 : coF Try.prog Try.f39 = some C96 := by kernel_rfl
def A96 : Ann := { keep := [0, 1, 2, 4, 8], live := [] }
def E96 {Ω : Type} : Env Ω := econs 56 S117 (enil)
theorem e96 : GoodE Try.prog E96 := GoodE.cons g117 (GoodE.nil)
end Go.Sx.Pr

/- Ready and Home of both layers: what they answer. -/
namespace Go.Sx.Pr
open Go Go.Sx Go.Sx.Md Go.Proofs
set_option maxRecDepth 100000
theorem n98 {Ω : Type} (K : SV → SH → Option Ω) (w e : Int) :
    sxFn E98 A98 C98 [U w, U e] [] K =
    br (uB w) (br (w % 16 == 0) (K (B true) []) (br (w % 16 == 3) (br (decide (e ≥ 2)) (K (B (decide (w / 65536 ≤ IntKind.wrap .u64 (e - 2)))) []) (K (B false) [])) (K (B false) []))) none := by kernel_rfl
theorem n96 {Ω : Type} (K : SV → SH → Option Ω) (a b c d e f g l x : Int) :
    sxFn E96 A96 C96 [cfgS a b c d e f g l, I x] [] K =
    br (decide (atV a b c d e f g l 5 x 0 < 0)) (K (I (-1)) (H49 a b c d e f g l)) (br (c == 0) none (K (I (IntKind.wrap .i64 (Int.tdiv x c))) (H49 a b c d e f g l))) := by kernel_rfl

def FReady : List (List Int) → Option (Bool × SV × SH)
  | [[w], [e]] => some (uB w && uB e, B (readyV w e), [])
  | _ => none
theorem v98 {w e : Int} (hw : uB w = true) (he : uB e = true) : sxFn E98 A98 C98 [U w, U e] [] KS = some (B (readyV w e), []) := by
  have he' := uB_iff.1 he
  rw [n98, hw, br_t]
  unfold readyV
  cases h1 : (w % 16 == 0) with
  | true => rw [br_t]; rfl
  | false =>
    rw [br_f]
    cases h2 : (w % 16 == 3) with
    | false => rw [br_f]; rfl
    | true =>
      rw [br_t]
      by_cases h3 : 2 ≤ e
      · rw [decide_eq_true (show e ≥ 2 from h3), br_t]
        rw [show IntKind.wrap .u64 (e - 2) = e - 2 by rw [IntKind.wrap_u64]; omega]
        simp only [Bool.true_and, Bool.false_or]
      · rw [decide_eq_false (show ¬ e ≥ 2 from h3), br_f]
        rfl
def S98c {Ω : Type} : Spec Ω := conSpec [.i .u64, .i .u64] FReady
theorem g98c : Good1 Try.prog 42 S98c := conGood Try.func42 (by kernel_rfl) c98 e98 mix (A := A98) fun L r hr hl hF => by
  obtain ⟨q0, l0, rfl, z0, hl1⟩ := lenAs_cons hl
  obtain ⟨w, rfl⟩ := one_of' z0
  obtain ⟨q1, l1, rfl, z1, hl2⟩ := lenAs_cons hl1
  obtain ⟨e, rfl⟩ := one_of' z1
  have hz := lenAs_nil hl2
  subst hz
  simp only [FReady, Option.some.injEq, Prod.mk.injEq, Bool.and_eq_true] at hF
  obtain ⟨⟨hw, he⟩, rfl, rfl⟩ := hF
  exact ⟨trivial, trivial, [], trim_none rfl _, v98 hw he⟩
section
variable (a b c d e f g l x : Int)
theorem x96 : sxFn E96 A96 C96 [cfgS a b c d e f g l, I x] [] KS = some (I (homeV ⟨a, b, c, d, e, f, g, l⟩ x), H49 a b c d e f g l) := by
  rw [n96]
  unfold homeV chkC
  by_cases hc : chk a b c d e f g l = 0
  · obtain ⟨⟨a1, a2⟩, ⟨b1, b2⟩, ⟨c1, c2⟩, ⟨d1, d2⟩, ⟨e1, e2⟩, _⟩ := chk_zero hc
    rw [at5 hc]
    simp only [hc, beq_self_eq_true, Bool.true_and]
    by_cases h : 0 ≤ x ∧ x < b * c
    · have hp : 0 ≤ (1 + d) * x := Int.mul_nonneg (by omega) h.1
      rw [if_pos h, decide_eq_false (by omega), br_f, show (c == 0) = false by simp; omega, br_f, decide_eq_true h.1, decide_eq_true h.2, Bool.true_and, cond_true]
      have hd : Int.tdiv x c = x / c := Int.tdiv_eq_ediv_of_nonneg h.1
      have h0 : 0 ≤ x / c := Int.ediv_nonneg h.1 (by omega)
      have h1 : x / c < b := Int.ediv_lt_of_lt_mul (by omega) h.2
      rw [hd, w64 (by omega) (by omega)]
    · rw [if_neg h, decide_eq_true (by omega), br_t]
      have : (decide (0 ≤ x) && decide (x < b * c)) = false := by
        rw [Bool.and_eq_false_iff, decide_eq_false_iff_not, decide_eq_false_iff_not]
        by_cases h1 : 0 ≤ x
        · exact .inr fun h2 => h ⟨h1, h2⟩
        · exact .inl h1
      rw [this, cond_false]
  · rw [atV_bad hc, decide_eq_true (by omega), br_t]
    have : (chk a b c d e f g l == 0) = false := by simp [hc]
    simp only [this, Bool.false_and, cond_false]

end
def FHome : List (List Int) → Option (Bool × SV × SH)
  | [[a, b, c, d, e, f, g, l], [i]] => some (true, I (homeV ⟨a, b, c, d, e, f, g, l⟩ i), [])
  | _ => none
def S96c {Ω : Type} : Spec Ω := conSpec [.g cfgK, .i .i64] FHome
theorem g96c : Good1 Try.prog 39 S96c := conGood Try.func39 (by kernel_rfl) c96 e96 mix (A := A96) fun L r hr hl hF => by
  obtain ⟨p, q, rfl, hp, s, q2, rfl, hs, hq⟩ := hl
  simp only [lenAs] at hq
  subst hq
  obtain ⟨a, b, c, d, e, f, g, l, rfl⟩ := eight hp
  obtain ⟨i, rfl⟩ := one_of hs
  simp only [FHome, Option.some.injEq, Prod.mk.injEq, true_and] at hF
  obtain ⟨rfl, rfl⟩ := hF
  exact ⟨trivial, trivial, _, trim_none rfl _, x96 a b c d e f g l i⟩
end Go.Sx.Pr

namespace Go.Sx.Pr
open Go Go.Sx Go.Proofs
set_option maxRecDepth 100000
/-- coatcheck/slab.Step$1 -/
def C93 : CF := ⟨3, [],
 .seq (.reg false [⟨some 4, .fa 0 (.t 1), none, 0⟩,
   ⟨none, .st 1 (.t 4) (.c (.d (.v (.int .i64 0)))), none, 0⟩,
   ⟨none, .st 1 (.t 2) (.c (.d (.v (.int .i64 2)))), none, 0⟩])
 (.seq (.reg false [⟨some 5, .mv (.t 0), none, 0⟩])
 (.cond 5 (.reg false [⟨none, .st 1 (.t 2) (.c (.d (.v (.int .i64 1)))), none, 0⟩])
   (.skip)))⟩
theorem c93 : coF Try.prog Try.f36 = some C93 := by kernel_rfl
def A93 : Ann := { keep := [0, 1, 2, 5], live := [] }
def E93 {Ω : Type} : Env Ω := enil
theorem e93 : GoodE Try.prog E93 := GoodE.nil
def S93 {Ω : Type} : Spec Ω := inl E93 A93 C93 false
theorem g93 : Good1 Try.prog 36 S93 := Good1.inl e93 mix Try.func36 (by kernel_rfl) c93 A93 false
/-- coatcheck/slab.draining -/
def C99 : CF := ⟨1, [(2, none)],
 .seq (.reg false [⟨some 2, .mv (.c (.d (.v (.bool false)))), none, 0⟩])
 (.seq (.reg false [⟨some 7, .mv (.t 0), none, 0⟩,
   ⟨some 8, .call (.c (.fn (.func 37) [] [])) [.t 7], none, 0⟩,
   ⟨some 6, .mv (.t 8), none, 0⟩,
   ⟨some 9, .ext 0 (.t 6), none, 0⟩,
   ⟨some 10, .ext 1 (.t 6), none, 0⟩,
   ⟨some 11, .ext 2 (.t 6), none, 0⟩,
   ⟨some 3, .mv (.t 9), none, 0⟩,
   ⟨some 4, .mv (.t 10), none, 0⟩,
   ⟨some 5, .mv (.t 11), none, 0⟩])
 (.seq (.reg false [⟨some 12, .mv (.t 3), none, 0⟩,
   ⟨some 13, .eq .int false (.t 12) (.c (.d (.v (.int .i64 2)))), none, 0⟩,
   ⟨some 2, .mv (.t 13), none, 0⟩])
 (.ret)))⟩
theorem c99 : coF Try.prog Try.f44 = some C99 := by kernel_rfl
def A99 : Ann := { keep := [0, 2, 3], live := [] }
def E99 {Ω : Type} : Env Ω := econs 37 S94c (enil)
theorem e99 : GoodE Try.prog E99 := GoodE.cons g94c (GoodE.nil)
def S99 {Ω : Type} : Spec Ω := inl E99 A99 C99 false
theorem g99 : Good1 Try.prog 44 S99 := Good1.inl e99 mix Try.func44 (by kernel_rfl) c99 A99 false
def K61_1 : CC := .seq (.reg true [⟨some 222, .ld 33 true (.t 3), none, 0⟩,
   ⟨some 223, .ld 1 false (.t 7), none, 0⟩,
   ⟨none, .st 33 (.t 4) (.t 222), none, 1⟩,
   ⟨some 5, .mv (.t 223), none, 7⟩,
   ⟨some 6, .mv (.c (.d (.v (.bool true)))), none, 15⟩])
 (.ret)
def K61_2 : CC := .seq (.seq (.reg false [⟨some 87, .mv (.t 10), none, 0⟩,
   ⟨some 88, .mv (.t 0), none, 0⟩,
   ⟨some 89, .nilc (.t 88), none, 0⟩,
   ⟨some 90, .fa 0 (.t 89), none, 0⟩,
   ⟨some 91, .fa 0 (.t 90), none, 0⟩,
   ⟨some 92, .fa 2 (.t 91), none, 0⟩,
   ⟨some 93, .ld 1 false (.t 92), none, 0⟩,
   ⟨some 94, .eq .int false (.t 87) (.t 93), none, 0⟩])
 (.cond 94 (.seq (.reg false [⟨some 95, .fa 0 (.t 3), none, 0⟩,
     ⟨none, .st 1 (.t 95) (.c (.d (.v (.int .i64 31)))), none, 0⟩])
   (.exit 0))
   (.skip)))
 (.seq (.reg false [⟨some 96, .fa 19 (.t 3), none, 0⟩,
   ⟨none, .st 1 (.t 96) (.c (.d (.v (.int .i64 0)))), none, 0⟩])
 (.reg false [⟨some 97, .mv (.t 8), none, 0⟩,
   ⟨some 98, .call (.t 97) [.c (.d (.v (.bool true)))], none, 0⟩]))
def K61_3 : CC := .reg true [⟨some 67, .mv (.t 0), none, 0⟩,
   ⟨some 68, .mv (.t 0), none, 0⟩,
   ⟨some 69, .nilc (.t 68), none, 2⟩,
   ⟨some 70, .fa 0 (.t 69), none, 6⟩,
   ⟨some 71, .ld 8 true (.t 70), none, 14⟩,
   ⟨some 72, .mv (.t 0), none, 0⟩,
   ⟨some 73, .nilc (.t 72), none, 32⟩,
   ⟨some 74, .fa 0 (.t 73), none, 96⟩,
   ⟨some 75, .ld 8 true (.t 74), none, 224⟩,
   ⟨some 76, .fa 19 (.t 3), none, 0⟩,
   ⟨some 77, .ld 1 false (.t 76), none, 512⟩,
   ⟨some 78, .bin .sub (.t 77) (.c (.d (.v (.int .i64 1)))), none, 1536⟩,
   ⟨some 79, .call (.c (.fn (.func 39) [] [])) [.t 75, .t 78], none, 4064⟩,
   ⟨some 80, .call (.c (.fn (.func 15) [] [])) [.t 71, .t 79], none, 8190⟩,
   ⟨some 81, .call (.c (.fn (.func 38) [] [])) [.t 67, .t 80, .c (.d (.v (.int .u64 16)))], none, 16383⟩,
   ⟨some 82, .bin .add (.t 81) (.c (.d (.v (.int .u64 16)))), none, 32767⟩,
   ⟨some 83, .call (.c (.fn (.func 37) [] [])) [.t 82], none, 65535⟩,
   ⟨some 66, .mv (.t 83), none, 131071⟩,
   ⟨some 84, .ext 0 (.t 66), none, 262143⟩,
   ⟨some 85, .ext 1 (.t 66), none, 262143⟩,
   ⟨some 86, .ext 2 (.t 66), none, 262143⟩,
   ⟨some 9, .mv (.t 84), none, 524287⟩,
   ⟨some 10, .mv (.t 85), none, 3145727⟩,
   ⟨some 11, .mv (.t 86), none, 8388607⟩]
def K61_4 : CC := .seq (.reg false [⟨some 101, .mv (.t 0), none, 0⟩,
   ⟨some 102, .call (.c (.fn (.func 40) [] [])) [.t 101, .c (.d (.v (.int .i64 0)))], none, 0⟩,
   ⟨some 103, .fa 25 (.t 3), none, 0⟩,
   ⟨none, .st 1 (.t 103) (.t 102), none, 0⟩])
 (.reg false [⟨some 104, .fa 0 (.t 3), none, 0⟩,
   ⟨none, .st 1 (.t 104) (.c (.d (.v (.int .i64 32)))), none, 0⟩])
def K61_5 : CC := .seq (.reg true [⟨some 107, .mv (.t 0), none, 0⟩,
   ⟨some 108, .mv (.t 0), none, 0⟩,
   ⟨some 109, .nilc (.t 108), none, 2⟩,
   ⟨some 110, .fa 0 (.t 109), none, 6⟩,
   ⟨some 111, .ld 8 true (.t 110), none, 14⟩,
   ⟨some 112, .mv (.t 0), none, 0⟩,
   ⟨some 113, .nilc (.t 112), none, 32⟩,
   ⟨some 114, .fa 0 (.t 113), none, 96⟩,
   ⟨some 115, .ld 8 true (.t 114), none, 224⟩,
   ⟨some 116, .fa 19 (.t 3), none, 0⟩,
   ⟨some 117, .ld 1 false (.t 116), none, 512⟩,
   ⟨some 118, .bin .sub (.t 117) (.c (.d (.v (.int .i64 1)))), none, 1536⟩,
   ⟨some 119, .call (.c (.fn (.func 39) [] [])) [.t 115, .t 118], none, 4064⟩,
   ⟨some 120, .call (.c (.fn (.func 15) [] [])) [.t 111, .t 119], none, 8190⟩,
   ⟨some 121, .fa 25 (.t 3), none, 0⟩,
   ⟨some 122, .ld 1 false (.t 121), none, 16384⟩,
   ⟨some 123, .call (.c (.fn (.func 41) [] [])) [.c (.d (.v (.int .i64 3))), .c (.d (.v (.int .i64 0))), .t 122], none, 65534⟩,
   ⟨some 124, .call (.c (.fn (.func 14) [] [])) [.t 107, .t 120, .t 123], none, 131071⟩])
 (.seq (.reg false [⟨some 125, .fa 19 (.t 3), none, 0⟩,
   ⟨none, .st 1 (.t 125) (.c (.d (.v (.int .i64 0)))), none, 0⟩])
 (.reg false [⟨some 126, .mv (.t 8), none, 0⟩,
   ⟨some 127, .call (.t 126) [.c (.d (.v (.bool true)))], none, 0⟩]))
def K61_6 : CC := .seq (.seq (.reg false [⟨some 140, .fa 25 (.t 3), none, 0⟩,
   ⟨some 141, .ld 1 false (.t 140), none, 0⟩,
   ⟨some 142, .fa 9 (.t 3), none, 0⟩,
   ⟨some 143, .ld 1 false (.t 142), none, 0⟩,
   ⟨some 144, .call (.c (.fn (.func 42) [] [])) [.t 141, .t 143], none, 0⟩])
 (.cond 144 (.seq (.reg false [⟨some 145, .fa 0 (.t 3), none, 0⟩,
     ⟨none, .st 1 (.t 145) (.c (.d (.v (.int .i64 34)))), none, 0⟩])
   (.exit 0))
   (.skip)))
 (.seq (.seq (.reg true [⟨some 146, .fa 28 (.t 3), none, 0⟩,
   ⟨some 147, .ld 1 false (.t 146), none, 1⟩,
   ⟨some 148, .mv (.t 0), none, 0⟩,
   ⟨some 149, .nilc (.t 148), none, 4⟩,
   ⟨some 150, .fa 0 (.t 149), none, 12⟩,
   ⟨some 151, .fa 0 (.t 150), none, 28⟩,
   ⟨some 152, .fa 1 (.t 151), none, 60⟩,
   ⟨some 153, .ld 1 false (.t 152), none, 124⟩,
   ⟨some 154, .bin .sub (.t 153) (.c (.d (.v (.int .i64 1)))), none, 252⟩,
   ⟨some 155, .bin .geq (.t 147) (.t 154), none, 511⟩])
 (.cond 155 (.reg false [⟨some 156, .mv (.t 8), none, 0⟩,
     ⟨some 157, .call (.t 156) [.c (.d (.v (.bool false)))], none, 0⟩])
   (.skip)))
 (.reg false [⟨some 158, .fa 28 (.t 3), none, 0⟩,
   ⟨some 159, .ld 1 false (.t 158), none, 0⟩,
   ⟨some 160, .bin .add (.t 159) (.c (.d (.v (.int .i64 1)))), none, 0⟩,
   ⟨some 161, .fa 28 (.t 3), none, 0⟩,
   ⟨none, .st 1 (.t 161) (.t 160), none, 0⟩]))
def K61_7 : CC := .reg true [⟨some 130, .mv (.t 0), none, 0⟩,
   ⟨some 131, .mv (.t 0), none, 0⟩,
   ⟨some 132, .nilc (.t 131), none, 2⟩,
   ⟨some 133, .fa 0 (.t 132), none, 6⟩,
   ⟨some 134, .ld 8 true (.t 133), none, 14⟩,
   ⟨some 135, .fa 28 (.t 3), none, 0⟩,
   ⟨some 136, .ld 1 false (.t 135), none, 32⟩,
   ⟨some 137, .call (.c (.fn (.func 15) [] [])) [.t 134, .t 136], none, 126⟩,
   ⟨some 138, .call (.c (.fn (.func 40) [] [])) [.t 130, .t 137], none, 255⟩,
   ⟨some 139, .fa 25 (.t 3), none, 511⟩,
   ⟨none, .st 1 (.t 139) (.t 138), none, 1023⟩]
def K61_8 : CC := .seq (.reg true [⟨some 164, .mv (.t 0), none, 0⟩,
   ⟨some 165, .mv (.t 0), none, 0⟩,
   ⟨some 166, .nilc (.t 165), none, 2⟩,
   ⟨some 167, .fa 0 (.t 166), none, 6⟩,
   ⟨some 168, .ld 8 true (.t 167), none, 14⟩,
   ⟨some 169, .fa 28 (.t 3), none, 0⟩,
   ⟨some 170, .ld 1 false (.t 169), none, 32⟩,
   ⟨some 171, .call (.c (.fn (.func 15) [] [])) [.t 168, .t 170], none, 126⟩,
   ⟨some 172, .fa 25 (.t 3), none, 0⟩,
   ⟨some 173, .ld 1 false (.t 172), none, 256⟩,
   ⟨some 174, .call (.c (.fn (.func 41) [] [])) [.c (.d (.v (.int .i64 1))), .c (.d (.v (.int .i64 0))), .c (.d (.v (.int .u64 0)))], none, 254⟩,
   ⟨some 175, .call (.c (.fn (.func 43) [] [])) [.t 164, .t 171, .t 173, .t 174], none, 2047⟩])
 (.cond 175 (.reg false [⟨some 176, .mv (.t 8), none, 0⟩,
     ⟨some 177, .call (.t 176) [.c (.d (.v (.bool true)))], none, 0⟩])
   (.reg false [⟨some 178, .fa 0 (.t 3), none, 0⟩,
     ⟨none, .st 1 (.t 178) (.c (.d (.v (.int .i64 33)))), none, 0⟩]))
def K61_9 : CC := .seq (.reg false [⟨some 193, .fa 25 (.t 3), none, 0⟩,
   ⟨some 194, .ld 1 false (.t 193), none, 0⟩,
   ⟨some 195, .call (.c (.fn (.func 37) [] [])) [.t 194], none, 0⟩,
   ⟨some 192, .mv (.t 195), none, 0⟩,
   ⟨some 196, .ext 0 (.t 192), none, 0⟩,
   ⟨some 197, .ext 1 (.t 192), none, 0⟩,
   ⟨some 198, .ext 2 (.t 192), none, 0⟩,
   ⟨some 12, .mv (.t 196), none, 0⟩,
   ⟨some 13, .mv (.t 197), none, 0⟩,
   ⟨some 14, .mv (.t 198), none, 0⟩])
 (.seq (.reg false [⟨some 199, .mv (.t 12), none, 0⟩,
   ⟨some 200, .eq .int true (.t 199) (.c (.d (.v (.int .i64 1)))), none, 0⟩])
 (.cond 200 (.reg false [⟨some 201, .mv (.t 8), none, 0⟩,
     ⟨some 202, .call (.t 201) [.c (.d (.v (.bool false)))], none, 0⟩])
   (.reg false [⟨some 203, .fa 0 (.t 3), none, 0⟩,
     ⟨none, .st 1 (.t 203) (.c (.d (.v (.int .i64 37)))), none, 0⟩])))
def K61_10 : CC := .reg true [⟨some 181, .mv (.t 0), none, 0⟩,
   ⟨some 182, .mv (.t 0), none, 0⟩,
   ⟨some 183, .nilc (.t 182), none, 2⟩,
   ⟨some 184, .fa 0 (.t 183), none, 6⟩,
   ⟨some 185, .ld 8 true (.t 184), none, 14⟩,
   ⟨some 186, .fa 1 (.t 3), none, 0⟩,
   ⟨some 187, .fa 3 (.t 186), none, 32⟩,
   ⟨some 188, .ld 1 false (.t 187), none, 96⟩,
   ⟨some 189, .call (.c (.fn (.func 15) [] [])) [.t 185, .t 188], none, 254⟩,
   ⟨some 190, .call (.c (.fn (.func 40) [] [])) [.t 181, .t 189], none, 511⟩,
   ⟨some 191, .fa 25 (.t 3), none, 1023⟩,
   ⟨none, .st 1 (.t 191) (.t 190), none, 2047⟩]
def K61_11 : CC := .seq (.reg true [⟨some 206, .mv (.t 0), none, 0⟩,
   ⟨some 207, .mv (.t 0), none, 0⟩,
   ⟨some 208, .nilc (.t 207), none, 2⟩,
   ⟨some 209, .fa 0 (.t 208), none, 6⟩,
   ⟨some 210, .ld 8 true (.t 209), none, 14⟩,
   ⟨some 211, .fa 1 (.t 3), none, 0⟩,
   ⟨some 212, .fa 3 (.t 211), none, 32⟩,
   ⟨some 213, .ld 1 false (.t 212), none, 96⟩,
   ⟨some 214, .call (.c (.fn (.func 15) [] [])) [.t 210, .t 213], none, 254⟩,
   ⟨some 215, .fa 25 (.t 3), none, 0⟩,
   ⟨some 216, .ld 1 false (.t 215), none, 512⟩,
   ⟨some 217, .call (.c (.fn (.func 41) [] [])) [.c (.d (.v (.int .i64 2))), .c (.d (.v (.int .i64 0))), .c (.d (.v (.int .u64 0)))], none, 510⟩,
   ⟨some 218, .call (.c (.fn (.func 43) [] [])) [.t 206, .t 214, .t 216, .t 217], none, 4095⟩])
 (.cond 218 (.reg false [⟨some 219, .mv (.t 8), none, 0⟩,
     ⟨some 220, .call (.t 219) [.c (.d (.v (.bool true)))], none, 0⟩])
   (.reg false [⟨some 221, .fa 0 (.t 3), none, 0⟩,
     ⟨none, .st 1 (.t 221) (.c (.d (.v (.int .i64 36)))), none, 0⟩]))
def K61_12 : CC := .seq (.seq (.reg false [⟨some 41, .fa 0 (.t 3), none, 0⟩,
   ⟨some 42, .ld 1 false (.t 41), none, 0⟩,
   ⟨some 43, .eq .int false (.t 42) (.c (.d (.v (.int .i64 35)))), none, 0⟩])
 (.cond 43 (.reg false [⟨some 44, .fa 18 (.t 3), none, 0⟩,
     ⟨some 45, .ld 1 false (.t 44), none, 0⟩,
     ⟨some 15, .mv (.t 45), none, 0⟩])
   (.skip)))
 (.reg true [⟨some 46, .mv (.t 8), none, 0⟩,
   ⟨some 47, .mv (.t 0), none, 0⟩,
   ⟨some 48, .mv (.t 0), none, 0⟩,
   ⟨some 49, .nilc (.t 48), none, 4⟩,
   ⟨some 50, .fa 0 (.t 49), none, 12⟩,
   ⟨some 51, .ld 8 true (.t 50), none, 28⟩,
   ⟨some 52, .mv (.t 0), none, 0⟩,
   ⟨some 53, .nilc (.t 52), none, 64⟩,
   ⟨some 54, .fa 0 (.t 53), none, 192⟩,
   ⟨some 55, .ld 8 true (.t 54), none, 448⟩,
   ⟨some 56, .mv (.t 15), none, 0⟩,
   ⟨some 57, .bin .sub (.t 56) (.c (.d (.v (.int .i64 1)))), none, 1024⟩,
   ⟨some 58, .call (.c (.fn (.func 39) [] [])) [.t 55, .t 57], none, 4032⟩,
   ⟨some 59, .call (.c (.fn (.func 15) [] [])) [.t 51, .t 58], none, 8188⟩,
   ⟨some 60, .call (.c (.fn (.func 40) [] [])) [.t 47, .t 59], none, 16382⟩,
   ⟨some 61, .call (.c (.fn (.func 44) [] [])) [.t 60], none, 32766⟩,
   ⟨some 62, .un .not (.t 61), none, 65534⟩,
   ⟨some 63, .call (.t 46) [.t 62], none, 131071⟩])
def K61_13 : CC := .reg false [⟨some 39, .fa 19 (.t 3), none, 0⟩,
   ⟨some 40, .ld 1 false (.t 39), none, 0⟩,
   ⟨some 15, .mv (.t 40), none, 0⟩]
def K61_14 : CC := .reg false [⟨some 205, .eq .int false (.t 38) (.c (.d (.v (.int .i64 37)))), none, 0⟩,
   ⟨some 204, .mv (.t 205), none, 0⟩]
def K61_15 : CC := .reg false [⟨some 180, .eq .int false (.t 38) (.c (.d (.v (.int .i64 36)))), none, 0⟩,
   ⟨some 179, .mv (.t 180), none, 0⟩]
def K61_16 : CC := .reg false [⟨some 163, .eq .int false (.t 38) (.c (.d (.v (.int .i64 34)))), none, 0⟩,
   ⟨some 162, .mv (.t 163), none, 0⟩]
def K61_17 : CC := .reg false [⟨some 129, .eq .int false (.t 38) (.c (.d (.v (.int .i64 33)))), none, 0⟩,
   ⟨some 128, .mv (.t 129), none, 0⟩]
def K61_18 : CC := .reg false [⟨some 106, .eq .int false (.t 38) (.c (.d (.v (.int .i64 32)))), none, 0⟩,
   ⟨some 105, .mv (.t 106), none, 0⟩]
def K61_19 : CC := .reg false [⟨some 100, .eq .int false (.t 38) (.c (.d (.v (.int .i64 31)))), none, 0⟩,
   ⟨some 99, .mv (.t 100), none, 0⟩]
def K61_20 : CC := .reg false [⟨some 65, .eq .int false (.t 38) (.c (.d (.v (.int .i64 30)))), none, 0⟩,
   ⟨some 64, .mv (.t 65), none, 0⟩]
def K61_21 : CC := .reg false [⟨some 37, .fa 0 (.t 3), none, 0⟩,
   ⟨some 38, .ld 1 false (.t 37), none, 0⟩]
def K61_22 : CC := .reg false [⟨some 36, .mkf (.func 36) [] [.t 3, .t 7], none, 0⟩,
   ⟨some 8, .mv (.t 36), none, 0⟩]
def K61_23 : CC := .reg false [⟨some 7, .newc 3 [.d (.v (.int .i64 0))], none, 0⟩,
   ⟨none, .st 1 (.t 7) (.c (.d (.v (.int .i64 0)))), none, 0⟩]
def K61_24 : CC := .reg false [⟨some 34, .mv (.t 0), none, 0⟩,
   ⟨some 35, .call (.c (.fn (.func 35) [] [])) [.t 34], none, 0⟩]
def K61_25 : CC := .seq (.reg false [⟨some 16, .mv (.t 0), none, 0⟩,
   ⟨some 17, .eq .ptr false (.t 16) (.c (.d (.v (.pointer none)))), none, 0⟩,
   ⟨some 18, .mv (.t 17), none, 0⟩,
   ⟨some 19, .fa 0 (.t 3), some (18, false), 0⟩,
   ⟨some 20, .ld 1 false (.t 19), some (18, false), 0⟩,
   ⟨some 21, .bin .lss (.t 20) (.c (.d (.v (.int .i64 30)))), some (18, false), 0⟩,
   ⟨some 22, .pick (.t 18) (.c (.d (.v (.bool true)))) (.t 21), none, 0⟩,
   ⟨some 23, .mv (.t 22), none, 0⟩,
   ⟨some 24, .fa 0 (.t 3), some (23, false), 0⟩,
   ⟨some 25, .ld 1 false (.t 24), some (23, false), 0⟩,
   ⟨some 26, .bin .gtr (.t 25) (.c (.d (.v (.int .i64 39)))), some (23, false), 0⟩,
   ⟨some 27, .pick (.t 23) (.c (.d (.v (.bool true)))) (.t 26), none, 0⟩,
   ⟨some 28, .mv (.t 27), none, 0⟩,
   ⟨some 29, .fa 0 (.t 3), some (28, false), 0⟩,
   ⟨some 30, .ld 1 false (.t 29), some (28, false), 0⟩,
   ⟨some 31, .eq .int false (.t 30) (.c (.d (.v (.int .i64 38)))), some (28, false), 0⟩,
   ⟨some 32, .pick (.t 28) (.c (.d (.v (.bool true)))) (.t 31), none, 0⟩])
 (.cond 32 (.seq (.reg false [⟨some 33, .ld 33 true (.t 3), none, 0⟩,
     ⟨none, .st 33 (.t 4) (.t 33), none, 0⟩,
     ⟨some 5, .mv (.c (.d (.v (.int .i64 0)))), none, 0⟩,
     ⟨some 6, .mv (.c (.d (.v (.bool false)))), none, 0⟩])
   (.ret))
   (.skip))
def K61_26 : CC := .reg false [⟨some 3, .box 43 33 (.t 1), none, 0⟩,
   ⟨some 4, .newc 43 [.d (.v (.int .i64 0)), .d (.v (.int .i64 0)), .d (.v (.int .u64 0)), .d (.v (.int .u64 0)), .d (.v (.int .i64 0)), .d (.v (.bool false)), .d (.v (.int .i64 0)), .d (.v (.int .i64 0)), .d (.v (.bool false)), .d (.v (.int .u64 0)), .d (.v (.slice none 0 0)), .d (.v (.int .u64 0)), .d (.v (.slice none 0 0)), .d (.v (.int .u64 0)), .d (.v (.slice none 0 0)), .d (.v (.int .u64 0)), .d (.v (.slice none 0 0)), .d (.v (.slice none 0 0)), .d (.v (.int .i64 0)), .d (.v (.int .i64 0)), .d (.v (.int .i64 0)), .d (.v (.int .i64 0)), .d (.v (.int .i64 0)), .d (.v (.int .u64 0)), .d (.v (.int .u64 0)), .d (.v (.int .u64 0)), .d (.v (.int .u64 0)), .d (.v (.int .u64 0)), .d (.v (.int .i64 0)), .d (.v (.slice none 0 0)), .d (.v (.int .u64 0)), .d (.v (.int .i64 0)), .d (.v (.bool false))], none, 0⟩,
   ⟨some 5, .mv (.c (.d (.v (.int .i64 0)))), none, 0⟩,
   ⟨some 6, .mv (.c (.d (.v (.bool false)))), none, 0⟩]
/-- coatcheck/slab.Step -/
def C61 : CF := ⟨2, [(4, some (33, true)), (5, none), (6, none)],
 .seq K61_26 (.seq K61_25 (.seq K61_24 (.seq K61_23 (.seq K61_22 (.seq (.seq K61_21 (.block 0 (.seq K61_20 (.cond 64 (.seq K61_3 K61_2) (.seq K61_19 (.cond 99 K61_4 (.seq K61_18 (.cond 105 K61_5 (.seq K61_17 (.cond 128 (.seq K61_7 K61_6) (.seq K61_16 (.cond 162 K61_8 (.seq K61_15 (.cond 179 (.seq K61_10 K61_9) (.seq K61_14 (.cond 204 K61_11 (.seq K61_13 K61_12))))))))))))))))) K61_1)))))⟩
theorem c61 : coF Try.prog Try.f24 = some C61 := by kernel_rfl
def A61 : Ann := { keep := [0, 1, 3, 4, 5, 6, 7, 8, 10, 12, 15, 32, 38, 43, 64, 94, 99, 105, 128, 144, 155, 162, 175, 179, 200, 204, 218], live := [] }
def E61 {Ω : Type} : Env Ω := econs 14 S23m (econs 42 S98c (econs 35 S29m (econs 40 S21m (econs 43 S25m (econs 36 S93 (econs 37 S94c (econs 38 S27m (econs 15 S95 (econs 39 S96c (econs 41 S97c (econs 44 S99 (enil))))))))))))
theorem e61 : GoodE Try.prog E61 := GoodE.cons g23m (GoodE.cons g98c (GoodE.cons g29m (GoodE.cons g21m (GoodE.cons g25m (GoodE.cons g93 (GoodE.cons g94c (GoodE.cons g27m (GoodE.cons g95 (GoodE.cons g96c (GoodE.cons g97c (GoodE.cons g99 (GoodE.nil))))))))))))
end Go.Sx.Pr

/- The steps of one layer, program and document, against the pure model. -/
namespace Go.Sx.Pr
open Go Go.Sx Go.Sx.Md Go.Proofs
set_option maxRecDepth 100000
theorem nBP_36 (m : Mm) (x : Wk) (t tw : Nat) :
    sxFn (E61 (Ω := SV × SH)) (An A61 2) C61 [.ptr 0 0, .agg (I 36 :: encT x)] (objs LM t tw m) (KT 2) =
    br (uB (mLoadV (mClear (m)) (adr (Mm.c m) 2 (Wk.slab x)))) (br (!mLoadV (mClear (m)) (adr (Mm.c m) 2 (Wk.slab x)) % 16 == 1) (some (.tup [.agg (encW { x with line := 0, V := mLoadV (mClear (m)) (adr (Mm.c m) 2 (Wk.slab x)) }), I 2, B true], (objs LM t tw (mLoad (mClear (m)) (adr (Mm.c m) 2 (Wk.slab x)))))) (some (.tup [.agg (encW { x with line := 37, V := mLoadV (mClear (m)) (adr (Mm.c m) 2 (Wk.slab x)) }), I 0, B true], (objs LM t tw (mLoad (mClear (m)) (adr (Mm.c m) 2 (Wk.slab x))))))) none := by kernel_rfl
theorem nBP_any (m : Mm) (x : Wk) (t tw : Nat) (q : Int) :
    sxFn (E61 (Ω := SV × SH)) (An A61 2) C61 [.ptr 0 0, .agg (I q :: encT x)] (objs LM t tw m) (KT 2) =
    br (decide (q < 30)) (some (.tup [.agg (encW { x with line := q }), I 0, B false], (objs LM t tw m))) (br (decide (q > 39)) (some (.tup [.agg (encW { x with line := q }), I 0, B false], (objs LM t tw m))) (br (q == 38) (some (.tup [.agg (encW { x with line := q }), I 0, B false], (objs LM t tw m))) (br (q == 30) (br (uB (wU (mAddV (mClear (m)) (adr (Mm.c m) 2 (homeV (Mm.c m) (w64' (Wk.K x - 1)))) 16 + 16))) (br (wU (mAddV (mClear (m)) (adr (Mm.c m) 2 (homeV (Mm.c m) (w64' (Wk.K x - 1)))) 16 + 16) / 16 % 4096 == Cf.c (Mm.c m)) (some (.tup [.agg (encW { x with line := 31 }), I 0, B true], (objs LM t tw (mAdd (mClear (m)) (adr (Mm.c m) 2 (homeV (Mm.c m) (w64' (Wk.K x - 1)))) 16)))) (some (.tup [.agg (encW { x with line := 0, K := 0 }), I 1, B true], (objs LM t tw (mAdd (mClear (m)) (adr (Mm.c m) 2 (homeV (Mm.c m) (w64' (Wk.K x - 1)))) 16))))) none) (br (q == 31) (some (.tup [.agg (encW { x with line := 32, V := mLoadV (mClear (m)) 0 }), I 0, B true], (objs LM t tw (mLoad (mClear (m)) 0)))) (br (q == 32) (br (uB (Wk.V x)) (some (.tup [.agg (encW { x with line := 0, K := 0 }), I 1, B true], (objs LM t tw (mStore (mClear (m)) (adr (Mm.c m) 2 (homeV (Mm.c m) (w64' (Wk.K x - 1)))) (pSlab 3 0 (Wk.V x)))))) none) (br (q == 33) (br (uB (mLoadV (mClear (m)) (adr (Mm.c m) 2 (Wk.J x))) && uB (Wk.E x)) (br (readyV (mLoadV (mClear (m)) (adr (Mm.c m) 2 (Wk.J x))) (Wk.E x)) (some (.tup [.agg (encW { x with line := 34, V := mLoadV (mClear (m)) (adr (Mm.c m) 2 (Wk.J x)) }), I 0, B true], (objs LM t tw (mLoad (mClear (m)) (adr (Mm.c m) 2 (Wk.J x)))))) (br (decide (Wk.J x ≥ IntKind.wrap .i64 (Cf.b (Mm.c m) - 1))) (some (.tup [.agg (encW { x with line := 0, V := mLoadV (mClear (m)) (adr (Mm.c m) 2 (Wk.J x)), J := IntKind.wrap .i64 (Wk.J x + 1) }), I 2, B true], (objs LM t tw (mLoad (mClear (m)) (adr (Mm.c m) 2 (Wk.J x)))))) (some (.tup [.agg (encW { x with line := q, V := mLoadV (mClear (m)) (adr (Mm.c m) 2 (Wk.J x)), J := IntKind.wrap .i64 (Wk.J x + 1) }), I 0, B true], (objs LM t tw (mLoad (mClear (m)) (adr (Mm.c m) 2 (Wk.J x)))))))) none) (br (q == 34) (br (mCasB (mClear (m)) (adr (Mm.c m) 2 (Wk.J x)) (Wk.V x)) (some (.tup [.agg (encW { x with line := 0 }), I 1, B true], (objs LM t tw (mCas (mClear (m)) (adr (Mm.c m) 2 (Wk.J x)) (Wk.V x) 1)))) (some (.tup [.agg (encW { x with line := 33 }), I 0, B true], (objs LM t tw (mCas (mClear (m)) (adr (Mm.c m) 2 (Wk.J x)) (Wk.V x) 1))))) (br (q == 36) (br (uB (mLoadV (mClear (m)) (adr (Mm.c m) 2 (Wk.slab x)))) (br (!mLoadV (mClear (m)) (adr (Mm.c m) 2 (Wk.slab x)) % 16 == 1) (some (.tup [.agg (encW { x with line := 0, V := mLoadV (mClear (m)) (adr (Mm.c m) 2 (Wk.slab x)) }), I 2, B true], (objs LM t tw (mLoad (mClear (m)) (adr (Mm.c m) 2 (Wk.slab x)))))) (some (.tup [.agg (encW { x with line := 37, V := mLoadV (mClear (m)) (adr (Mm.c m) 2 (Wk.slab x)) }), I 0, B true], (objs LM t tw (mLoad (mClear (m)) (adr (Mm.c m) 2 (Wk.slab x))))))) none) (br (q == 37) (br (mCasB (mClear (m)) (adr (Mm.c m) 2 (Wk.slab x)) (Wk.V x)) (some (.tup [.agg (encW { x with line := 0 }), I 1, B true], (objs LM t tw (mCas (mClear (m)) (adr (Mm.c m) 2 (Wk.slab x)) (Wk.V x) 2)))) (some (.tup [.agg (encW { x with line := 36 }), I 0, B true], (objs LM t tw (mCas (mClear (m)) (adr (Mm.c m) 2 (Wk.slab x)) (Wk.V x) 2))))) (br (q == 35) (br (uB (mLoadV (mClear (m)) (adr (Mm.c m) 2 (homeV (Mm.c m) (w64' (Wk.B x - 1)))))) (br (!mLoadV (mClear (m)) (adr (Mm.c m) 2 (homeV (Mm.c m) (w64' (Wk.B x - 1)))) % 16 == 2) (some (.tup [.agg (encW { x with line := 0 }), I 1, B true], (objs LM t tw (mLoad (mClear (m)) (adr (Mm.c m) 2 (homeV (Mm.c m) (w64' (Wk.B x - 1)))))))) (some (.tup [.agg (encW { x with line := 0 }), I 2, B true], (objs LM t tw (mLoad (mClear (m)) (adr (Mm.c m) 2 (homeV (Mm.c m) (w64' (Wk.B x - 1))))))))) none) (br (uB (mLoadV (mClear (m)) (adr (Mm.c m) 2 (homeV (Mm.c m) (w64' (Wk.K x - 1)))))) (br (!mLoadV (mClear (m)) (adr (Mm.c m) 2 (homeV (Mm.c m) (w64' (Wk.K x - 1)))) % 16 == 2) (some (.tup [.agg (encW { x with line := 0 }), I 1, B true], (objs LM t tw (mLoad (mClear (m)) (adr (Mm.c m) 2 (homeV (Mm.c m) (w64' (Wk.K x - 1)))))))) (some (.tup [.agg (encW { x with line := 0 }), I 2, B true], (objs LM t tw (mLoad (mClear (m)) (adr (Mm.c m) 2 (homeV (Mm.c m) (w64' (Wk.K x - 1))))))))) none))))))))))) := by kernel_rfl
theorem nBP_37 (m : Mm) (x : Wk) (t tw : Nat) :
    sxFn (E61 (Ω := SV × SH)) (An A61 2) C61 [.ptr 0 0, .agg (I 37 :: encT x)] (objs LM t tw m) (KT 2) =
    br (mCasB (mClear (m)) (adr (Mm.c m) 2 (Wk.slab x)) (Wk.V x)) (some (.tup [.agg (encW { x with line := 0 }), I 1, B true], (objs LM t tw (mCas (mClear (m)) (adr (Mm.c m) 2 (Wk.slab x)) (Wk.V x) 2)))) (some (.tup [.agg (encW { x with line := 36 }), I 0, B true], (objs LM t tw (mCas (mClear (m)) (adr (Mm.c m) 2 (Wk.slab x)) (Wk.V x) 2)))) := by kernel_rfl
theorem nBP_30 (m : Mm) (x : Wk) (t tw : Nat) :
    sxFn (E61 (Ω := SV × SH)) (An A61 2) C61 [.ptr 0 0, .agg (I 30 :: encT x)] (objs LM t tw m) (KT 2) =
    br (uB (wU (mAddV (mClear (m)) (adr (Mm.c m) 2 (homeV (Mm.c m) (w64' (Wk.K x - 1)))) 16 + 16))) (br (wU (mAddV (mClear (m)) (adr (Mm.c m) 2 (homeV (Mm.c m) (w64' (Wk.K x - 1)))) 16 + 16) / 16 % 4096 == Cf.c (Mm.c m)) (some (.tup [.agg (encW { x with line := 31 }), I 0, B true], (objs LM t tw (mAdd (mClear (m)) (adr (Mm.c m) 2 (homeV (Mm.c m) (w64' (Wk.K x - 1)))) 16)))) (some (.tup [.agg (encW { x with line := 0, K := 0 }), I 1, B true], (objs LM t tw (mAdd (mClear (m)) (adr (Mm.c m) 2 (homeV (Mm.c m) (w64' (Wk.K x - 1)))) 16))))) none := by kernel_rfl
theorem nBP_39 (m : Mm) (x : Wk) (t tw : Nat) :
    sxFn (E61 (Ω := SV × SH)) (An A61 2) C61 [.ptr 0 0, .agg (I 39 :: encT x)] (objs LM t tw m) (KT 2) =
    br (uB (mLoadV (mClear (m)) (adr (Mm.c m) 2 (homeV (Mm.c m) (w64' (Wk.K x - 1)))))) (br (!mLoadV (mClear (m)) (adr (Mm.c m) 2 (homeV (Mm.c m) (w64' (Wk.K x - 1)))) % 16 == 2) (some (.tup [.agg (encW { x with line := 0 }), I 1, B true], (objs LM t tw (mLoad (mClear (m)) (adr (Mm.c m) 2 (homeV (Mm.c m) (w64' (Wk.K x - 1)))))))) (some (.tup [.agg (encW { x with line := 0 }), I 2, B true], (objs LM t tw (mLoad (mClear (m)) (adr (Mm.c m) 2 (homeV (Mm.c m) (w64' (Wk.K x - 1))))))))) none := by kernel_rfl
theorem nBP_31 (m : Mm) (x : Wk) (t tw : Nat) :
    sxFn (E61 (Ω := SV × SH)) (An A61 2) C61 [.ptr 0 0, .agg (I 31 :: encT x)] (objs LM t tw m) (KT 2) =
    some (.tup [.agg (encW { x with line := 32, V := mLoadV (mClear (m)) 0 }), I 0, B true], (objs LM t tw (mLoad (mClear (m)) 0))) := by kernel_rfl
theorem nBP_32 (m : Mm) (x : Wk) (t tw : Nat) :
    sxFn (E61 (Ω := SV × SH)) (An A61 2) C61 [.ptr 0 0, .agg (I 32 :: encT x)] (objs LM t tw m) (KT 2) =
    br (uB (Wk.V x)) (some (.tup [.agg (encW { x with line := 0, K := 0 }), I 1, B true], (objs LM t tw (mStore (mClear (m)) (adr (Mm.c m) 2 (homeV (Mm.c m) (w64' (Wk.K x - 1)))) (pSlab 3 0 (Wk.V x)))))) none := by kernel_rfl
theorem nBP_33 (m : Mm) (x : Wk) (t tw : Nat) :
    sxFn (E61 (Ω := SV × SH)) (An A61 2) C61 [.ptr 0 0, .agg (I 33 :: encT x)] (objs LM t tw m) (KT 2) =
    br (uB (mLoadV (mClear (m)) (adr (Mm.c m) 2 (Wk.J x))) && uB (Wk.E x)) (br (readyV (mLoadV (mClear (m)) (adr (Mm.c m) 2 (Wk.J x))) (Wk.E x)) (some (.tup [.agg (encW { x with line := 34, V := mLoadV (mClear (m)) (adr (Mm.c m) 2 (Wk.J x)) }), I 0, B true], (objs LM t tw (mLoad (mClear (m)) (adr (Mm.c m) 2 (Wk.J x)))))) (br (decide (Wk.J x ≥ IntKind.wrap .i64 (Cf.b (Mm.c m) - 1))) (some (.tup [.agg (encW { x with line := 0, V := mLoadV (mClear (m)) (adr (Mm.c m) 2 (Wk.J x)), J := IntKind.wrap .i64 (Wk.J x + 1) }), I 2, B true], (objs LM t tw (mLoad (mClear (m)) (adr (Mm.c m) 2 (Wk.J x)))))) (some (.tup [.agg (encW { x with line := 33, V := mLoadV (mClear (m)) (adr (Mm.c m) 2 (Wk.J x)), J := IntKind.wrap .i64 (Wk.J x + 1) }), I 0, B true], (objs LM t tw (mLoad (mClear (m)) (adr (Mm.c m) 2 (Wk.J x)))))))) none := by kernel_rfl
theorem nBP_34 (m : Mm) (x : Wk) (t tw : Nat) :
    sxFn (E61 (Ω := SV × SH)) (An A61 2) C61 [.ptr 0 0, .agg (I 34 :: encT x)] (objs LM t tw m) (KT 2) =
    br (mCasB (mClear (m)) (adr (Mm.c m) 2 (Wk.J x)) (Wk.V x)) (some (.tup [.agg (encW { x with line := 0 }), I 1, B true], (objs LM t tw (mCas (mClear (m)) (adr (Mm.c m) 2 (Wk.J x)) (Wk.V x) 1)))) (some (.tup [.agg (encW { x with line := 33 }), I 0, B true], (objs LM t tw (mCas (mClear (m)) (adr (Mm.c m) 2 (Wk.J x)) (Wk.V x) 1)))) := by kernel_rfl
theorem nBP_35 (m : Mm) (x : Wk) (t tw : Nat) :
    sxFn (E61 (Ω := SV × SH)) (An A61 2) C61 [.ptr 0 0, .agg (I 35 :: encT x)] (objs LM t tw m) (KT 2) =
    br (uB (mLoadV (mClear (m)) (adr (Mm.c m) 2 (homeV (Mm.c m) (w64' (Wk.B x - 1)))))) (br (!mLoadV (mClear (m)) (adr (Mm.c m) 2 (homeV (Mm.c m) (w64' (Wk.B x - 1)))) % 16 == 2) (some (.tup [.agg (encW { x with line := 0 }), I 1, B true], (objs LM t tw (mLoad (mClear (m)) (adr (Mm.c m) 2 (homeV (Mm.c m) (w64' (Wk.B x - 1)))))))) (some (.tup [.agg (encW { x with line := 0 }), I 2, B true], (objs LM t tw (mLoad (mClear (m)) (adr (Mm.c m) 2 (homeV (Mm.c m) (w64' (Wk.B x - 1))))))))) none := by kernel_rfl
theorem br_sameB {α : Type} {c : Bool} {x : α} : br c x x = x := by cases c <;> rfl
abbrev OBP (q : Int) : Prop := ∀ (m : Mm) (x : Wk) (t tw : TypeId), sxFn (E61 (Ω := SV × SH)) (An A61 2) C61 [.ptr 0 0, .agg (I q :: encT x)] (objs LM t tw m) (KT 2) = some (.tup [.agg (I q :: encT x), I 0, B false], objs LM t tw m)
theorem oBP_neg (n : Nat) : OBP (Int.negSucc n) := fun m x t tw => by
  have hq : Int.negSucc n < 0 := Int.negSucc_lt_zero n
  generalize (Int.negSucc n : Int) = q at hq ⊢
  rw [nBP_any]
  simp only [decide_eq_true (show q < 30 by omega), decide_eq_true (show q ≤ 30 by omega), decide_eq_false (show ¬ q > 30 by omega), decide_eq_false (show ¬ q ≥ 30 by omega), decide_eq_true (show q < 38 by omega), decide_eq_true (show q ≤ 38 by omega), decide_eq_false (show ¬ q > 38 by omega), decide_eq_false (show ¬ q ≥ 38 by omega), decide_eq_true (show q < 39 by omega), decide_eq_true (show q ≤ 39 by omega), decide_eq_false (show ¬ q > 39 by omega), decide_eq_false (show ¬ q ≥ 39 by omega), br_t, br_f, br_sameB]
  all_goals rfl
theorem oBP_top (n : Nat) : OBP (Int.ofNat (n + 40)) := fun m x t tw => by
  have hq : Int.ofNat (n + 40) ≥ 40 := by simp only [ge_iff_le, Int.ofNat_eq_natCast]; omega
  generalize (Int.ofNat (n + 40) : Int) = q at hq ⊢
  rw [nBP_any]
  simp only [decide_eq_false (show ¬ q < 30 by omega), decide_eq_false (show ¬ q ≤ 30 by omega), decide_eq_true (show q > 30 by omega), decide_eq_true (show q ≥ 30 by omega), decide_eq_false (show ¬ q < 38 by omega), decide_eq_false (show ¬ q ≤ 38 by omega), decide_eq_true (show q > 38 by omega), decide_eq_true (show q ≥ 38 by omega), decide_eq_false (show ¬ q < 39 by omega), decide_eq_false (show ¬ q ≤ 39 by omega), decide_eq_true (show q > 39 by omega), decide_eq_true (show q ≥ 39 by omega), br_t, br_f, br_sameB]
  all_goals rfl
theorem oBP_0 : OBP (Int.ofNat 0) := fun m x t tw => by kernel_rfl
theorem oBP_1 : OBP (Int.ofNat 1) := fun m x t tw => by kernel_rfl
theorem oBP_2 : OBP (Int.ofNat 2) := fun m x t tw => by kernel_rfl
theorem oBP_3 : OBP (Int.ofNat 3) := fun m x t tw => by kernel_rfl
theorem oBP_4 : OBP (Int.ofNat 4) := fun m x t tw => by kernel_rfl
theorem oBP_5 : OBP (Int.ofNat 5) := fun m x t tw => by kernel_rfl
theorem oBP_6 : OBP (Int.ofNat 6) := fun m x t tw => by kernel_rfl
theorem oBP_7 : OBP (Int.ofNat 7) := fun m x t tw => by kernel_rfl
theorem oBP_8 : OBP (Int.ofNat 8) := fun m x t tw => by kernel_rfl
theorem oBP_9 : OBP (Int.ofNat 9) := fun m x t tw => by kernel_rfl
theorem oBP_10 : OBP (Int.ofNat 10) := fun m x t tw => by kernel_rfl
theorem oBP_11 : OBP (Int.ofNat 11) := fun m x t tw => by kernel_rfl
theorem oBP_12 : OBP (Int.ofNat 12) := fun m x t tw => by kernel_rfl
theorem oBP_13 : OBP (Int.ofNat 13) := fun m x t tw => by kernel_rfl
theorem oBP_14 : OBP (Int.ofNat 14) := fun m x t tw => by kernel_rfl
theorem oBP_15 : OBP (Int.ofNat 15) := fun m x t tw => by kernel_rfl
theorem oBP_16 : OBP (Int.ofNat 16) := fun m x t tw => by kernel_rfl
theorem oBP_17 : OBP (Int.ofNat 17) := fun m x t tw => by kernel_rfl
theorem oBP_18 : OBP (Int.ofNat 18) := fun m x t tw => by kernel_rfl
theorem oBP_19 : OBP (Int.ofNat 19) := fun m x t tw => by kernel_rfl
theorem oBP_20 : OBP (Int.ofNat 20) := fun m x t tw => by kernel_rfl
theorem oBP_21 : OBP (Int.ofNat 21) := fun m x t tw => by kernel_rfl
theorem oBP_22 : OBP (Int.ofNat 22) := fun m x t tw => by kernel_rfl
theorem oBP_23 : OBP (Int.ofNat 23) := fun m x t tw => by kernel_rfl
theorem oBP_24 : OBP (Int.ofNat 24) := fun m x t tw => by kernel_rfl
theorem oBP_25 : OBP (Int.ofNat 25) := fun m x t tw => by kernel_rfl
theorem oBP_26 : OBP (Int.ofNat 26) := fun m x t tw => by kernel_rfl
theorem oBP_27 : OBP (Int.ofNat 27) := fun m x t tw => by kernel_rfl
theorem oBP_28 : OBP (Int.ofNat 28) := fun m x t tw => by kernel_rfl
theorem oBP_29 : OBP (Int.ofNat 29) := fun m x t tw => by kernel_rfl
theorem oBP_38 : OBP (Int.ofNat 38) := fun m x t tw => by kernel_rfl
theorem mB_no {m : Mm} {x : Wk} (h : x.line ≠ 30 ∧ x.line ≠ 31 ∧ x.line ≠ 32 ∧ x.line ≠ 33 ∧ x.line ≠ 34 ∧ x.line ≠ 35 ∧ x.line ≠ 36 ∧ x.line ≠ 37 ∧ x.line ≠ 39) : stepB m x = ⟨m, x, 0, false⟩ := by
  simp only [stepB, h, ↓reduceIte]
theorem vBP_30 {m : Mm} {x : Wk} {t tw : TypeId} (hm : okM m = true) (hx : okW x = true) : sxFn (E61 (Ω := SV × SH)) (An A61 2) C61 [.ptr 0 0, .agg (I 30 :: encT x)] (objs LM t tw m) (KT 2) = some (.tup [.agg (encW (stepB m { x with line := 30 }).x), I (stepB m { x with line := 30 }).way, B (stepB m { x with line := 30 }).ok], objs LM t tw (stepB m { x with line := 30 }).m) := by
  obtain ⟨b1, b2, b3, b4, b5, b6, b7, b8, b9, b10, b11, b12⟩ := okW_all hx
  have hu := okM_u hm
  rw [nBP_30]
  try simp only [clrV, clrL, clrS, clrB, clrC, clrA, clrAV, b1, b2, b3, b4, b5, b6, b7, b8, b9, b10, b11, b12, uB_load hu, tmod_load hu, tdiv_load hu (show (0 : Int) < 2 by decide), cfg_a1 hm, low32, w64_low, vers b9, uB_vers b9, nn (uB_load hu), nn b3, nn b8, nn b9, nn b11, nn b12, ge_iff_le, Bool.and_true, Bool.true_and, br_t, mAddV_eq hu, uB_wrap, cfg_b1 hm, pSlab10, pSlab20, adrH_fold]
  simp only [stepB, Int.reduceEq, ↓reduceIte]
  cases h0 : (wU (mLoadV m (adrH m.c x.K) + 16) / 16 % 4096 == m.c.c) <;> simp only [h0, br_t, br_f, cond_true, cond_false, Bool.not_true, Bool.not_false, Bool.true_and, Bool.false_and, Bool.and_true, Bool.and_false] <;> first | rfl | (rw [eq_of_beq h0]; done) | (rw [eq_of_beq h0]; rfl)
theorem vBP_31 {m : Mm} {x : Wk} {t tw : TypeId} (hm : okM m = true) (hx : okW x = true) : sxFn (E61 (Ω := SV × SH)) (An A61 2) C61 [.ptr 0 0, .agg (I 31 :: encT x)] (objs LM t tw m) (KT 2) = some (.tup [.agg (encW (stepB m { x with line := 31 }).x), I (stepB m { x with line := 31 }).way, B (stepB m { x with line := 31 }).ok], objs LM t tw (stepB m { x with line := 31 }).m) := by
  obtain ⟨b1, b2, b3, b4, b5, b6, b7, b8, b9, b10, b11, b12⟩ := okW_all hx
  have hu := okM_u hm
  rw [nBP_31]
  try simp only [clrV, clrL, clrS, clrB, clrC, clrA, clrAV, b1, b2, b3, b4, b5, b6, b7, b8, b9, b10, b11, b12, uB_load hu, tmod_load hu, tdiv_load hu (show (0 : Int) < 2 by decide), cfg_a1 hm, low32, w64_low, vers b9, uB_vers b9, nn (uB_load hu), nn b3, nn b8, nn b9, nn b11, nn b12, ge_iff_le, Bool.and_true, Bool.true_and, br_t, mAddV_eq hu, uB_wrap, cfg_b1 hm, pSlab10, pSlab20, adrH_fold]
  simp only [stepB, Int.reduceEq, ↓reduceIte]
  all_goals rfl
theorem vBP_32 {m : Mm} {x : Wk} {t tw : TypeId} (hm : okM m = true) (hx : okW x = true) : sxFn (E61 (Ω := SV × SH)) (An A61 2) C61 [.ptr 0 0, .agg (I 32 :: encT x)] (objs LM t tw m) (KT 2) = some (.tup [.agg (encW (stepB m { x with line := 32 }).x), I (stepB m { x with line := 32 }).way, B (stepB m { x with line := 32 }).ok], objs LM t tw (stepB m { x with line := 32 }).m) := by
  obtain ⟨b1, b2, b3, b4, b5, b6, b7, b8, b9, b10, b11, b12⟩ := okW_all hx
  have hu := okM_u hm
  rw [nBP_32]
  try simp only [clrV, clrL, clrS, clrB, clrC, clrA, clrAV, b1, b2, b3, b4, b5, b6, b7, b8, b9, b10, b11, b12, uB_load hu, tmod_load hu, tdiv_load hu (show (0 : Int) < 2 by decide), cfg_a1 hm, low32, w64_low, vers b9, uB_vers b9, nn (uB_load hu), nn b3, nn b8, nn b9, nn b11, nn b12, ge_iff_le, Bool.and_true, Bool.true_and, br_t, mAddV_eq hu, uB_wrap, cfg_b1 hm, pSlab10, pSlab20, adrH_fold]
  simp only [stepB, Int.reduceEq, ↓reduceIte]
  all_goals rfl
theorem vBP_33 {m : Mm} {x : Wk} {t tw : TypeId} (hm : okM m = true) (hx : okW x = true) : sxFn (E61 (Ω := SV × SH)) (An A61 2) C61 [.ptr 0 0, .agg (I 33 :: encT x)] (objs LM t tw m) (KT 2) = some (.tup [.agg (encW (stepB m { x with line := 33 }).x), I (stepB m { x with line := 33 }).way, B (stepB m { x with line := 33 }).ok], objs LM t tw (stepB m { x with line := 33 }).m) := by
  obtain ⟨b1, b2, b3, b4, b5, b6, b7, b8, b9, b10, b11, b12⟩ := okW_all hx
  have hu := okM_u hm
  rw [nBP_33]
  try simp only [clrV, clrL, clrS, clrB, clrC, clrA, clrAV, b1, b2, b3, b4, b5, b6, b7, b8, b9, b10, b11, b12, uB_load hu, tmod_load hu, tdiv_load hu (show (0 : Int) < 2 by decide), cfg_a1 hm, low32, w64_low, vers b9, uB_vers b9, nn (uB_load hu), nn b3, nn b8, nn b9, nn b11, nn b12, ge_iff_le, Bool.and_true, Bool.true_and, br_t, mAddV_eq hu, uB_wrap, cfg_b1 hm, pSlab10, pSlab20, adrH_fold]
  simp only [stepB, Int.reduceEq, ↓reduceIte]
  cases h0 : (readyV (mLoadV m (adr m.c 2 x.J)) x.E) <;> cases h1 : (decide (m.c.b - 1 ≤ x.J)) <;> simp only [h0, h1, br_t, br_f, cond_true, cond_false, Bool.not_true, Bool.not_false, Bool.true_and, Bool.false_and, Bool.and_true, Bool.and_false] <;> first | rfl | (rw [eq_of_beq h0]; done) | (rw [eq_of_beq h0]; rfl)
theorem vBP_34 {m : Mm} {x : Wk} {t tw : TypeId} (hm : okM m = true) (hx : okW x = true) : sxFn (E61 (Ω := SV × SH)) (An A61 2) C61 [.ptr 0 0, .agg (I 34 :: encT x)] (objs LM t tw m) (KT 2) = some (.tup [.agg (encW (stepB m { x with line := 34 }).x), I (stepB m { x with line := 34 }).way, B (stepB m { x with line := 34 }).ok], objs LM t tw (stepB m { x with line := 34 }).m) := by
  obtain ⟨b1, b2, b3, b4, b5, b6, b7, b8, b9, b10, b11, b12⟩ := okW_all hx
  have hu := okM_u hm
  rw [nBP_34]
  try simp only [clrV, clrL, clrS, clrB, clrC, clrA, clrAV, b1, b2, b3, b4, b5, b6, b7, b8, b9, b10, b11, b12, uB_load hu, tmod_load hu, tdiv_load hu (show (0 : Int) < 2 by decide), cfg_a1 hm, low32, w64_low, vers b9, uB_vers b9, nn (uB_load hu), nn b3, nn b8, nn b9, nn b11, nn b12, ge_iff_le, Bool.and_true, Bool.true_and, br_t, mAddV_eq hu, uB_wrap, cfg_b1 hm, pSlab10, pSlab20, adrH_fold]
  simp only [stepB, Int.reduceEq, ↓reduceIte]
  cases h0 : (mCasB m (adr m.c 2 x.J) x.V) <;> simp only [h0, br_t, br_f, cond_true, cond_false, Bool.not_true, Bool.not_false, Bool.true_and, Bool.false_and, Bool.and_true, Bool.and_false] <;> first | rfl | (rw [eq_of_beq h0]; done) | (rw [eq_of_beq h0]; rfl)
theorem vBP_35 {m : Mm} {x : Wk} {t tw : TypeId} (hm : okM m = true) (hx : okW x = true) : sxFn (E61 (Ω := SV × SH)) (An A61 2) C61 [.ptr 0 0, .agg (I 35 :: encT x)] (objs LM t tw m) (KT 2) = some (.tup [.agg (encW (stepB m { x with line := 35 }).x), I (stepB m { x with line := 35 }).way, B (stepB m { x with line := 35 }).ok], objs LM t tw (stepB m { x with line := 35 }).m) := by
  obtain ⟨b1, b2, b3, b4, b5, b6, b7, b8, b9, b10, b11, b12⟩ := okW_all hx
  have hu := okM_u hm
  rw [nBP_35]
  try simp only [clrV, clrL, clrS, clrB, clrC, clrA, clrAV, b1, b2, b3, b4, b5, b6, b7, b8, b9, b10, b11, b12, uB_load hu, tmod_load hu, tdiv_load hu (show (0 : Int) < 2 by decide), cfg_a1 hm, low32, w64_low, vers b9, uB_vers b9, nn (uB_load hu), nn b3, nn b8, nn b9, nn b11, nn b12, ge_iff_le, Bool.and_true, Bool.true_and, br_t, mAddV_eq hu, uB_wrap, cfg_b1 hm, pSlab10, pSlab20, adrH_fold]
  simp only [stepB, Int.reduceEq, ↓reduceIte]
  cases h0 : (mLoadV m (adrH m.c x.B) % 16 == 2) <;> simp only [h0, br_t, br_f, cond_true, cond_false, Bool.not_true, Bool.not_false, Bool.true_and, Bool.false_and, Bool.and_true, Bool.and_false] <;> first | rfl | (rw [eq_of_beq h0]; done) | (rw [eq_of_beq h0]; rfl)
theorem vBP_36 {m : Mm} {x : Wk} {t tw : TypeId} (hm : okM m = true) (hx : okW x = true) : sxFn (E61 (Ω := SV × SH)) (An A61 2) C61 [.ptr 0 0, .agg (I 36 :: encT x)] (objs LM t tw m) (KT 2) = some (.tup [.agg (encW (stepB m { x with line := 36 }).x), I (stepB m { x with line := 36 }).way, B (stepB m { x with line := 36 }).ok], objs LM t tw (stepB m { x with line := 36 }).m) := by
  obtain ⟨b1, b2, b3, b4, b5, b6, b7, b8, b9, b10, b11, b12⟩ := okW_all hx
  have hu := okM_u hm
  rw [nBP_36]
  try simp only [clrV, clrL, clrS, clrB, clrC, clrA, clrAV, b1, b2, b3, b4, b5, b6, b7, b8, b9, b10, b11, b12, uB_load hu, tmod_load hu, tdiv_load hu (show (0 : Int) < 2 by decide), cfg_a1 hm, low32, w64_low, vers b9, uB_vers b9, nn (uB_load hu), nn b3, nn b8, nn b9, nn b11, nn b12, ge_iff_le, Bool.and_true, Bool.true_and, br_t, mAddV_eq hu, uB_wrap, cfg_b1 hm, pSlab10, pSlab20, adrH_fold]
  simp only [stepB, Int.reduceEq, ↓reduceIte]
  cases h0 : (mLoadV m (adr m.c 2 x.slab) % 16 == 1) <;> simp only [h0, br_t, br_f, cond_true, cond_false, Bool.not_true, Bool.not_false, Bool.true_and, Bool.false_and, Bool.and_true, Bool.and_false] <;> first | rfl | (rw [eq_of_beq h0]; done) | (rw [eq_of_beq h0]; rfl)
theorem vBP_37 {m : Mm} {x : Wk} {t tw : TypeId} (hm : okM m = true) (hx : okW x = true) : sxFn (E61 (Ω := SV × SH)) (An A61 2) C61 [.ptr 0 0, .agg (I 37 :: encT x)] (objs LM t tw m) (KT 2) = some (.tup [.agg (encW (stepB m { x with line := 37 }).x), I (stepB m { x with line := 37 }).way, B (stepB m { x with line := 37 }).ok], objs LM t tw (stepB m { x with line := 37 }).m) := by
  obtain ⟨b1, b2, b3, b4, b5, b6, b7, b8, b9, b10, b11, b12⟩ := okW_all hx
  have hu := okM_u hm
  rw [nBP_37]
  try simp only [clrV, clrL, clrS, clrB, clrC, clrA, clrAV, b1, b2, b3, b4, b5, b6, b7, b8, b9, b10, b11, b12, uB_load hu, tmod_load hu, tdiv_load hu (show (0 : Int) < 2 by decide), cfg_a1 hm, low32, w64_low, vers b9, uB_vers b9, nn (uB_load hu), nn b3, nn b8, nn b9, nn b11, nn b12, ge_iff_le, Bool.and_true, Bool.true_and, br_t, mAddV_eq hu, uB_wrap, cfg_b1 hm, pSlab10, pSlab20, adrH_fold]
  simp only [stepB, Int.reduceEq, ↓reduceIte]
  cases h0 : (mCasB m (adr m.c 2 x.slab) x.V) <;> simp only [h0, br_t, br_f, cond_true, cond_false, Bool.not_true, Bool.not_false, Bool.true_and, Bool.false_and, Bool.and_true, Bool.and_false] <;> first | rfl | (rw [eq_of_beq h0]; done) | (rw [eq_of_beq h0]; rfl)
theorem vBP_39 {m : Mm} {x : Wk} {t tw : TypeId} (hm : okM m = true) (hx : okW x = true) : sxFn (E61 (Ω := SV × SH)) (An A61 2) C61 [.ptr 0 0, .agg (I 39 :: encT x)] (objs LM t tw m) (KT 2) = some (.tup [.agg (encW (stepB m { x with line := 39 }).x), I (stepB m { x with line := 39 }).way, B (stepB m { x with line := 39 }).ok], objs LM t tw (stepB m { x with line := 39 }).m) := by
  obtain ⟨b1, b2, b3, b4, b5, b6, b7, b8, b9, b10, b11, b12⟩ := okW_all hx
  have hu := okM_u hm
  rw [nBP_39]
  try simp only [clrV, clrL, clrS, clrB, clrC, clrA, clrAV, b1, b2, b3, b4, b5, b6, b7, b8, b9, b10, b11, b12, uB_load hu, tmod_load hu, tdiv_load hu (show (0 : Int) < 2 by decide), cfg_a1 hm, low32, w64_low, vers b9, uB_vers b9, nn (uB_load hu), nn b3, nn b8, nn b9, nn b11, nn b12, ge_iff_le, Bool.and_true, Bool.true_and, br_t, mAddV_eq hu, uB_wrap, cfg_b1 hm, pSlab10, pSlab20, adrH_fold]
  simp only [stepB, Int.reduceEq, ↓reduceIte]
  cases h0 : (mLoadV m (adrH m.c x.K) % 16 == 2) <;> simp only [h0, br_t, br_f, cond_true, cond_false, Bool.not_true, Bool.not_false, Bool.true_and, Bool.false_and, Bool.and_true, Bool.and_false] <;> first | rfl | (rw [eq_of_beq h0]; done) | (rw [eq_of_beq h0]; rfl)
theorem vBP {m : Mm} {x : Wk} {t tw : TypeId} (hm : okM m = true) (hx : okW x = true) : sxFn (E61 (Ω := SV × SH)) (An A61 2) C61 [.ptr 0 0, .agg (encW x)] (objs LM t tw m) (KT 2) = some (.tup [.agg (encW (stepB m x).x), I (stepB m x).way, B (stepB m x).ok], objs LM t tw (stepB m x).m) := by
  have no : ∀ q : Int, x.line = q → OBP q → (x.line ≠ 30 ∧ x.line ≠ 31 ∧ x.line ≠ 32 ∧ x.line ≠ 33 ∧ x.line ≠ 34 ∧ x.line ≠ 35 ∧ x.line ≠ 36 ∧ x.line ≠ 37 ∧ x.line ≠ 39) → sxFn (E61 (Ω := SV × SH)) (An A61 2) C61 [.ptr 0 0, .agg (encW x)] (objs LM t tw m) (KT 2) = some (.tup [.agg (encW (stepB m x).x), I (stepB m x).way, B (stepB m x).ok], objs LM t tw (stepB m x).m) := fun q hq ho hn => by
    rw [mB_no hn]
    have := ho m x t tw
    rw [← hq] at this
    exact this
  have ye : ∀ q : Int, x.line = q → (sxFn (E61 (Ω := SV × SH)) (An A61 2) C61 [.ptr 0 0, .agg (I q :: encT x)] (objs LM t tw m) (KT 2) = some (.tup [.agg (encW (stepB m { x with line := q }).x), I (stepB m { x with line := q }).way, B (stepB m { x with line := q }).ok], objs LM t tw (stepB m { x with line := q }).m)) → sxFn (E61 (Ω := SV × SH)) (An A61 2) C61 [.ptr 0 0, .agg (encW x)] (objs LM t tw m) (KT 2) = some (.tup [.agg (encW (stepB m x).x), I (stepB m x).way, B (stepB m x).ok], objs LM t tw (stepB m x).m) := fun q hq h => by
    have e1 : { x with line := q } = x := by rw [← hq]
    have e : I q :: encT x = encW x := by simp only [encW]; rw [hq]
    rw [e1, e] at h
    exact h
  rcases hl : x.line with n | n
  · by_cases hn : 40 ≤ n
    · obtain ⟨k, rfl⟩ : ∃ k, n = k + 40 := ⟨n - 40, by omega⟩
      exact no _ hl (oBP_top k) (by rw [hl]; simp only [Int.ofNat_eq_natCast, ne_eq]; omega)
    · have : n < 40 := by omega
      match n, hl, this with
      | 0, hl, _ => exact no _ hl oBP_0 (by rw [hl]; simp only [Int.ofNat_eq_natCast, ne_eq]; omega)
      | 1, hl, _ => exact no _ hl oBP_1 (by rw [hl]; simp only [Int.ofNat_eq_natCast, ne_eq]; omega)
      | 2, hl, _ => exact no _ hl oBP_2 (by rw [hl]; simp only [Int.ofNat_eq_natCast, ne_eq]; omega)
      | 3, hl, _ => exact no _ hl oBP_3 (by rw [hl]; simp only [Int.ofNat_eq_natCast, ne_eq]; omega)
      | 4, hl, _ => exact no _ hl oBP_4 (by rw [hl]; simp only [Int.ofNat_eq_natCast, ne_eq]; omega)
      | 5, hl, _ => exact no _ hl oBP_5 (by rw [hl]; simp only [Int.ofNat_eq_natCast, ne_eq]; omega)
      | 6, hl, _ => exact no _ hl oBP_6 (by rw [hl]; simp only [Int.ofNat_eq_natCast, ne_eq]; omega)
      | 7, hl, _ => exact no _ hl oBP_7 (by rw [hl]; simp only [Int.ofNat_eq_natCast, ne_eq]; omega)
      | 8, hl, _ => exact no _ hl oBP_8 (by rw [hl]; simp only [Int.ofNat_eq_natCast, ne_eq]; omega)
      | 9, hl, _ => exact no _ hl oBP_9 (by rw [hl]; simp only [Int.ofNat_eq_natCast, ne_eq]; omega)
      | 10, hl, _ => exact no _ hl oBP_10 (by rw [hl]; simp only [Int.ofNat_eq_natCast, ne_eq]; omega)
      | 11, hl, _ => exact no _ hl oBP_11 (by rw [hl]; simp only [Int.ofNat_eq_natCast, ne_eq]; omega)
      | 12, hl, _ => exact no _ hl oBP_12 (by rw [hl]; simp only [Int.ofNat_eq_natCast, ne_eq]; omega)
      | 13, hl, _ => exact no _ hl oBP_13 (by rw [hl]; simp only [Int.ofNat_eq_natCast, ne_eq]; omega)
      | 14, hl, _ => exact no _ hl oBP_14 (by rw [hl]; simp only [Int.ofNat_eq_natCast, ne_eq]; omega)
      | 15, hl, _ => exact no _ hl oBP_15 (by rw [hl]; simp only [Int.ofNat_eq_natCast, ne_eq]; omega)
      | 16, hl, _ => exact no _ hl oBP_16 (by rw [hl]; simp only [Int.ofNat_eq_natCast, ne_eq]; omega)
      | 17, hl, _ => exact no _ hl oBP_17 (by rw [hl]; simp only [Int.ofNat_eq_natCast, ne_eq]; omega)
      | 18, hl, _ => exact no _ hl oBP_18 (by rw [hl]; simp only [Int.ofNat_eq_natCast, ne_eq]; omega)
      | 19, hl, _ => exact no _ hl oBP_19 (by rw [hl]; simp only [Int.ofNat_eq_natCast, ne_eq]; omega)
      | 20, hl, _ => exact no _ hl oBP_20 (by rw [hl]; simp only [Int.ofNat_eq_natCast, ne_eq]; omega)
      | 21, hl, _ => exact no _ hl oBP_21 (by rw [hl]; simp only [Int.ofNat_eq_natCast, ne_eq]; omega)
      | 22, hl, _ => exact no _ hl oBP_22 (by rw [hl]; simp only [Int.ofNat_eq_natCast, ne_eq]; omega)
      | 23, hl, _ => exact no _ hl oBP_23 (by rw [hl]; simp only [Int.ofNat_eq_natCast, ne_eq]; omega)
      | 24, hl, _ => exact no _ hl oBP_24 (by rw [hl]; simp only [Int.ofNat_eq_natCast, ne_eq]; omega)
      | 25, hl, _ => exact no _ hl oBP_25 (by rw [hl]; simp only [Int.ofNat_eq_natCast, ne_eq]; omega)
      | 26, hl, _ => exact no _ hl oBP_26 (by rw [hl]; simp only [Int.ofNat_eq_natCast, ne_eq]; omega)
      | 27, hl, _ => exact no _ hl oBP_27 (by rw [hl]; simp only [Int.ofNat_eq_natCast, ne_eq]; omega)
      | 28, hl, _ => exact no _ hl oBP_28 (by rw [hl]; simp only [Int.ofNat_eq_natCast, ne_eq]; omega)
      | 29, hl, _ => exact no _ hl oBP_29 (by rw [hl]; simp only [Int.ofNat_eq_natCast, ne_eq]; omega)
      | 30, hl, _ => exact ye 30 hl (vBP_30 hm hx)
      | 31, hl, _ => exact ye 31 hl (vBP_31 hm hx)
      | 32, hl, _ => exact ye 32 hl (vBP_32 hm hx)
      | 33, hl, _ => exact ye 33 hl (vBP_33 hm hx)
      | 34, hl, _ => exact ye 34 hl (vBP_34 hm hx)
      | 35, hl, _ => exact ye 35 hl (vBP_35 hm hx)
      | 36, hl, _ => exact ye 36 hl (vBP_36 hm hx)
      | 37, hl, _ => exact ye 37 hl (vBP_37 hm hx)
      | 38, hl, _ => exact no _ hl oBP_38 (by rw [hl]; simp only [Int.ofNat_eq_natCast, ne_eq]; omega)
      | 39, hl, _ => exact ye 39 hl (vBP_39 hm hx)
      | n + 40, _, h => exact absurd h (by omega)
  · exact no _ hl (oBP_neg n) (by rw [hl]; simp only [ne_eq]; omega)
def GB (m : Mm) (l : List SV) : Option (Bool × SV × Mm) := match l with
  | [.agg c] => bif isC ctsW c then some (okM m && okW (decW c), .tup [.agg (encW (stepB m (decW c)).x), I (stepB m (decW c)).way, B (stepB m (decW c)).ok], (stepB m (decW c)).m) else none
  | _ => none
def GBn (l : List SV) : Option SV := match l with
  | [.agg c] => bif isC ctsW c then some (.tup [.agg (encW (decW c)), I 0, B false]) else none
  | _ => none
theorem nB_nil (x : Wk) : sxFn (E61 (Ω := SV × SH)) (An A61 0) C61 [.d (.v (.pointer none)), .agg (encW x)] [] (KT 0) = some (.tup [.agg (encW x), I 0, B false], []) := by kernel_rfl
def S61m {Ω : Type} : Spec Ω := memSpec [none, some ctsW] (findM LM.own) [] (memF LM GB GBn)
theorem g61m : Good1 Try.prog 24 S61m := memFGood (A := A61) Try.func24 (by kernel_rfl) c61 e61 mix (L := LM) lay_M (fun m xs r m' t tw h => by
  unfold GB at h
  split at h
  · rename_i c
    obtain ⟨hc, h⟩ := cond_some h
    simp only [Option.some.injEq, Prod.mk.injEq, Bool.and_eq_true] at h
    obtain ⟨⟨hm, hx⟩, rfl, rfl⟩ := h
    rw [← enc_decW hc]
    rw [dec_encW]
    exact ⟨_, LeV.refl _, vBP hm hx⟩
  · cases h) (fun xs r h => by
  unfold GBn at h
  split at h
  · obtain ⟨hc, h⟩ := cond_some h
    simp only [Option.some.injEq] at h
    subst h
    rw [← enc_decW hc, dec_encW]
    exact nB_nil _
  · cases h)
end Go.Sx.Pr

namespace Go.Sx.Pr
open Go Go.Sx Go.Proofs
set_option maxRecDepth 100000
end Go.Sx.Pr

/- Packing of entries and tickets: what both layers' functions answer. -/
namespace Go.Sx.Pr
open Go Go.Sx Go.Proofs
set_option maxRecDepth 100000
end Go.Sx.Pr

namespace Go.Sx.Pr
open Go Go.Sx Go.Proofs
set_option maxRecDepth 100000
end Go.Sx.Pr

/- The steps of one layer, program and document, against the pure model. -/
namespace Go.Sx.Pr
open Go Go.Sx Go.Sx.Md Go.Proofs
set_option maxRecDepth 100000
end Go.Sx.Pr
