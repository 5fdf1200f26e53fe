/- Pieces of the code of functions, compiled for the symbolic interpreter, each checked against the program; no conditions. -/
import Derived.Test.YthbknbmfcklebaaGreatV7
import Derived.Test.YthbknbmfcklebaaGreatQ39
import Derived.Test.YthbknbmfcklebaaGreatRows
import Derived.KernelRfl
import Derived.Test.YthbknbmfcklebaaGreatN1
import Derived.Test.YthbknbmfcklebaaGreatR7
import Derived.Test.YthbknbmfcklebaaGreatQ39
set_option linter.all false
set_option linter.unusedVariables false
set_option linter.unusedSimpArgs false
set_option linter.unnecessarySimpa false
namespace Go.Sx.Pr
open Go Go.Sx Go.Proofs
set_option maxRecDepth 100000
def K1115_1 : CC := .seq (.seq (.reg false [⟨some 12, .ld 33 true (.t 5), none, 0⟩,
   ⟨some 13, .call (.c (.fn (.func 6) [] [])) [.t 12], none, 0⟩])
 (.cond 13 (.seq (.reg false [⟨some 8, .mv (.c (.d (.v (.bool true)))), none, 0⟩])
   (.ret))
   (.skip)))
 (.seq (.reg false [⟨some 14, .ld 33 true (.t 5), none, 0⟩,
   ⟨some 15, .call (.c (.fn (.func 7) [] [])) [.t 14], none, 0⟩,
   ⟨some 9, .newc 34 [.d (.v (.int .i64 0)), .d (.v (.int .i64 0)), .d (.v (.int .u64 0)), .d (.v (.int .u64 0)), .d (.v (.int .i64 0)), .d (.v (.bool false)), .d (.v (.int .i64 0)), .d (.v (.int .i64 0)), .d (.v (.bool false)), .d (.v (.int .u64 0)), .d (.v (.slice none 0 0)), .d (.v (.int .u64 0)), .d (.v (.slice none 0 0)), .d (.v (.int .u64 0)), .d (.v (.slice none 0 0)), .d (.v (.int .u64 0)), .d (.v (.slice none 0 0)), .d (.v (.slice none 0 0)), .d (.v (.int .i64 0)), .d (.v (.int .i64 0)), .d (.v (.int .i64 0)), .d (.v (.int .i64 0)), .d (.v (.int .i64 0)), .d (.v (.int .u64 0)), .d (.v (.int .u64 0)), .d (.v (.int .u64 0)), .d (.v (.int .u64 0)), .d (.v (.int .u64 0)), .d (.v (.int .i64 0)), .d (.v (.slice none 0 0)), .d (.v (.int .u64 0)), .d (.v (.int .i64 0)), .d (.v (.bool false))], none, 0⟩,
   ⟨none, .st 33 (.t 9) (.t 15), none, 0⟩])
 (.seq (.reg true [⟨some 16, .ld 8 true (.t 4), none, 0⟩,
   ⟨some 17, .ld 33 true (.t 5), none, 0⟩,
   ⟨some 18, .ld 7 true (.t 6), none, 0⟩,
   ⟨some 19, .mv (.t 3), none, 0⟩,
   ⟨some 20, .call (.c (.fn (.func 9) [] [])) [.t 16, .t 17, .t 18, .t 19], none, 15⟩,
   ⟨some 21, .ld 8 true (.t 4), none, 0⟩,
   ⟨some 22, .ld 33 true (.t 9), none, 0⟩,
   ⟨some 23, .ld 7 true (.t 6), none, 0⟩,
   ⟨some 24, .mv (.t 3), none, 0⟩,
   ⟨some 25, .call (.c (.fn (.func 10) [] [])) [.t 21, .t 22, .t 23, .t 24], none, 511⟩,
   ⟨some 26, .call (.c (.fn (.func 8) [] [])) [.t 20, .t 25], none, 1023⟩,
   ⟨some 27, .mv (.t 26), none, 2047⟩,
   ⟨some 28, .ld 33 true (.t 5), some (27, true), 4095⟩,
   ⟨some 29, .ld 33 true (.t 9), some (27, true), 4095⟩,
   ⟨some 30, .call (.c (.fn (.func 8) [] [])) [.t 28, .t 29], some (27, true), 16383⟩,
   ⟨some 31, .pick (.t 27) (.t 30) (.c (.d (.v (.bool false)))), none, 32767⟩,
   ⟨some 8, .mv (.t 31), none, 65535⟩])
 (.ret)))
def K1115_2 : CC := .seq (.reg false [⟨some 10, .call (.c (.fn (.func 5) [] [])) [], none, 0⟩,
   ⟨some 11, .un .not (.t 10), none, 0⟩])
 (.cond 11 (.seq (.reg false [⟨some 8, .mv (.c (.d (.v (.bool false)))), none, 0⟩])
   (.ret))
   (.skip))
def K1115_3 : CC := .reg false [⟨some 4, .box 24 8 (.t 0), none, 0⟩,
   ⟨some 5, .box 34 33 (.t 1), none, 0⟩,
   ⟨some 6, .box 26 7 (.t 2), none, 0⟩,
   ⟨some 8, .mv (.c (.d (.v (.bool false)))), none, 0⟩]
/-- coatcheck/coatchecklaw13.WorkBegins -/
def C1115 : CF := ⟨4, [(8, none)],
 .seq K1115_3 (.seq K1115_2 K1115_1)⟩
theorem c1115 : coF Tryz.prog Tryz.f3 = some C1115 := by kernel_rfl
def A1115 : Ann := { keep := [0, 1, 2, 3, 4, 5, 6, 8, 9, 11, 13], live := [] }
def E1115 {Ω : Type} : Env Ω := econs 5 S1117 (econs 6 S46c (econs 7 S1118p (econs 8 S48c (econs 9 S1119p (econs 10 S1120p (enil))))))
theorem e1115 : GoodE Tryz.prog E1115 := GoodE.cons g1117 (GoodE.cons g46c (GoodE.cons g1118p (GoodE.cons g48c (GoodE.cons g1119p (GoodE.cons g1120p (GoodE.nil))))))
end Go.Sx.Pr

/- A worker's state as an argument of a law. -/
namespace Go.Sx.Pr
open Go Go.Sx Go.Sx.Md Go.Proofs Go.ChangeShapes Go.WideShapes Go.ChangeAt Go.RowKit
set_option maxRecDepth 100000

theorem flatW : flatT Tryz.prog 6 34 = some ctsW := by kernel_rfl
theorem suppW (n : Nat) : suppT Tryz.prog (n + 6) 34 = true := by kernel_rfl

theorem uB_wf {x : Int} (h : (Lit.int .u64 x).wf = true) : uB x = true := uB_iff.2 (u64_wf h)

section
variable {H : Type} {enc : TypeId × Value → H} {w : World}
theorem work_arg {v : Value} {d : DataW H} {p : List MemPlace} (h : DataW.Trod enc Tryz.prog w 0 (fun _ => true) true 34 v d p) : ∃ x : Wk, okW x = true ∧ SRep (cx0 w) w (.agg (encW x)) v := by
  obtain ⟨n, L, hW, hR⟩ := arg_rep (kids_rows laid rowed) slicesFull (t := 34) (tlt (by omega)) (m := 6) suppW h
  obtain ⟨iv, bv, sv, h1, h2⟩ := agg_arg (cx := cx0 w) (n := 6) (m := n) flatW (by decide) hW hR
  refine ⟨ofF iv bv sv, ?_, h2⟩
  simp only [ctsW, wfC] at h1
  obtain ⟨_, _, a2, a3, _, _, _, a9, _, a11, _, a13, _, a15, _, _, _, _, _, _, _, a23, a24, a25, a26, a27, _, _, a30, _, _⟩ := h1
  simp only [okW, ofF, uB_wf a2, uB_wf a3, uB_wf a9, uB_wf a11, uB_wf a13, uB_wf a15, uB_wf a23, uB_wf a24, uB_wf a25, uB_wf a26, uB_wf a27, uB_wf a30, Bool.and_self]
end
end Go.Sx.Pr

/- WorkBegins: the law answers true on symbolic arguments. -/
namespace Go.Sx.Pr
open Go Go.Sx Go.Sx.Md Go.Proofs Go.ChangeShapes Go.WideShapes Go.ChangeAt Go.RowKit
set_option maxRecDepth 100000
theorem n1115 {Ω : Type} (it : Itr Ω) (K : SV → SH → Option Ω) (c : Cf) (x : Wk) (k oT oX sl by_ nth t : Int) (us : Bool) :
    sxFnI it E1115 A1115 C1115 [.agg (encC c), .agg (encW x), .agg (encO k oT oX sl us by_ nth), U t] [] K =
    br (greatW x) (K (B true) [.cells 24 (encC c), .cells 34 (encW x), .cells 26 (encO k oT oX sl us by_ nth)])
      (br (lenW x) (br (decide (x.rack.length < 1000000000) && uB t) (br (decide (x.rack.length < 1000000000) && uB t)
        (br (lenW (beginK c x k oT oX sl us by_ nth t)) (br (sameW (beginK c x k oT oX sl us by_ nth t) (beginK c x k oT oX sl us by_ nth t))
          (br (lenW x) (K (B (sameW x x)) [.cells 24 (encC c), .cells 34 (encW x), .cells 26 (encO k oT oX sl us by_ nth), .cells 34 (encW x)]) none)
          (K (B false) [.cells 24 (encC c), .cells 34 (encW x), .cells 26 (encO k oT oX sl us by_ nth), .cells 34 (encW x)])) none) none) none) none) := by kernel_rfl

/-- Lists that are none longer. -/
def noLonger (x y : Wk) : Prop := y.rack.length ≤ x.rack.length ∧ y.hold.length ≤ x.hold.length ∧ y.read.length ≤ x.read.length ∧ y.l0.length ≤ x.l0.length ∧ y.l1.length ≤ x.l1.length ∧ y.l2.length ≤ x.l2.length
theorem lenW_le {x y : Wk} (h : noLonger x y) (hx : lenW x = true) : lenW y = true := by
  obtain ⟨h1, h2, h3, h4, h5, h6⟩ := h
  simp only [lenW, Bool.and_eq_true, decide_eq_true_eq] at hx ⊢
  omega
theorem beg_le {x : Wk} {k oT oX sl by_ nth tt : Int} {us : Bool} : noLonger x (begK0 x k oT oX sl us by_ nth tt) := ⟨Nat.le_refl _, Nat.le_refl _, Nat.zero_le _, Nat.le_refl _, Nat.le_refl _, Nat.le_refl _⟩
theorem nl_cond {x y z : Wk} {b : Bool} (h1 : noLonger x y) (h2 : noLonger x z) : noLonger x (bif b then y else z) := by cases b <;> assumption
theorem nl_body {x y : Wk} (h : noLonger x y) : noLonger x (bodyK y) := by
  obtain ⟨h1, h2, h3, h4, h5, h6⟩ := h
  unfold bodyK
  refine nl_cond ⟨h1, h2, h3, h4, h5, h6⟩ (nl_cond ⟨h1, h2, h3, h4, h5, h6⟩ (nl_cond ⟨h1, h2, h3, h4, h5, h6⟩ ?_))
  unfold beginT
  refine nl_cond ⟨h1, h2, h3, h4, h5, h6⟩ ⟨?_, h2, h3, h4, h5, h6⟩
  show (y.rack.take _).length ≤ _
  rw [List.length_take]; omega
theorem beginK_le {c : Cf} {x : Wk} {k oT oX sl by_ nth t : Int} {us : Bool} : noLonger x (beginK c x k oT oX sl us by_ nth t) := by
  have h := @beg_le x k oT oX sl by_ nth (bif asksK k then t else 0) us
  unfold beginK
  simp only
  split
  · exact nl_cond h h
  split
  · exact nl_cond h h
  split
  · exact nl_cond (nl_body h) h
  split
  · exact nl_cond (nl_cond (nl_body h) h) h
  split
  · exact nl_cond (nl_cond h h) h
  split
  · exact h
  split
  · exact nl_cond h (nl_cond h h)
  · exact h

theorem mainB {c : Cf} {x : Wk} {k oT oX sl by_ nth t : Int} {us : Bool} (ht : uB t = true) : Tru (sxFn E1115 A1115 C1115 [.agg (encC c), .agg (encW x), .agg (encO k oT oX sl us by_ nth), U t] [] KS) := by
  rw [← sxFnI_eq, n1115]
  refine Tru.br (fun _ => tru_ret) fun hg => ?_
  have hl := lenW_of hg
  have hl' := hl
  simp only [lenW, Bool.and_eq_true, decide_eq_true_eq] at hl'
  rw [hl, br_t, decide_eq_true hl'.1, ht, Bool.and_self, br_t, br_t, lenW_le beginK_le hl, br_t, sameW_self, br_t, br_t, sameW_self]
  exact tru_ret

theorem flatO : flatT Tryz.prog 6 26 = some ctsO := by kernel_rfl
theorem suppO (n : Nat) : suppT Tryz.prog (n + 6) 26 = true := by kernel_rfl
section
variable {H : Type} {enc : TypeId × Value → H} {w : World}
theorem op_arg {v : Value} {d : DataW H} {p : List MemPlace} (h : DataW.Trod enc Tryz.prog w 0 (fun _ => true) true 26 v d p) : ∃ (k oT oX sl by_ nth : Int) (us : Bool), SRep (cx0 w) w (.agg (encO k oT oX sl us by_ nth)) v := by
  obtain ⟨n, L, hW, hR⟩ := arg_rep (kids_rows laid rowed) slicesFull (t := 26) (tlt (by omega)) (m := 6) suppO h
  obtain ⟨iv, bv, sv, h1, h2⟩ := agg_arg (cx := cx0 w) (n := 6) (m := n) flatO (by decide) hW hR
  exact ⟨iv 0, iv 1, iv 2, iv 3, iv 5, iv 6, bv 4, h2⟩
end
end Go.Sx.Pr

/- A list of bytes as an argument of a law. -/
namespace Go.Sx.Pr
open Go Go.Sx Go.Proofs Go.ChangeShapes Go.WideShapes Go.ChangeAt Go.RowKit
set_option maxRecDepth 100000
section
variable {H : Type} {enc : TypeId × Value → H} {w : World}
end
end Go.Sx.Pr
