/- Pieces of the code of functions, compiled for the symbolic interpreter, each checked against the program; no conditions. -/
import Derived.Test.YtppkbofmgjkboaaG7
import Derived.Test.YtppkbofmgjkboaaRows
import Derived.KernelRfl
set_option linter.all false
set_option linter.unusedVariables false
set_option linter.unusedSimpArgs false
set_option linter.unnecessarySimpa false
namespace Go.Sx.Pr
open Go Go.Sx Go.Proofs
set_option maxRecDepth 100000
def K1009_1 : CC := .seq (.reg false [⟨some 15, .mv (.t 0), none, 0⟩,
   ⟨some 16, .mv (.t 1), none, 0⟩,
   ⟨some 17, .call (.c (.fn (.func 28) [] [])) [.t 15, .t 16], none, 0⟩,
   ⟨some 14, .mv (.t 17), none, 0⟩,
   ⟨some 18, .ext 0 (.t 14), none, 0⟩,
   ⟨some 19, .ext 1 (.t 14), none, 0⟩,
   ⟨some 5, .mv (.t 18), none, 0⟩,
   ⟨some 6, .mv (.t 19), none, 0⟩])
 (.seq (.reg false [⟨some 21, .mv (.t 0), none, 0⟩,
   ⟨some 22, .mv (.t 1), none, 0⟩,
   ⟨some 23, .call (.c (.fn (.func 29) [] [])) [.t 21, .t 22], none, 0⟩,
   ⟨some 20, .mv (.t 23), none, 0⟩,
   ⟨some 24, .ext 0 (.t 20), none, 0⟩,
   ⟨some 25, .ext 1 (.t 20), none, 0⟩,
   ⟨some 7, .mv (.t 24), none, 0⟩,
   ⟨some 8, .mv (.t 25), none, 0⟩])
 (.seq (.reg false [⟨some 26, .mv (.t 5), none, 0⟩,
   ⟨some 27, .mv (.t 7), none, 0⟩,
   ⟨some 28, .eq .int false (.t 26) (.t 27), none, 0⟩,
   ⟨some 29, .mv (.t 28), none, 0⟩,
   ⟨some 30, .mv (.t 6), some (29, true), 0⟩,
   ⟨some 31, .mv (.t 8), some (29, true), 0⟩,
   ⟨some 32, .eq .bool false (.t 30) (.t 31), some (29, true), 0⟩,
   ⟨some 33, .pick (.t 29) (.t 32) (.c (.d (.v (.bool false)))), none, 0⟩,
   ⟨some 4, .mv (.t 33), none, 0⟩])
 (.ret)))
def K1009_2 : CC := .seq (.reg false [⟨some 11, .mv (.t 1), none, 0⟩,
   ⟨some 12, .len (.t 11), none, 0⟩,
   ⟨some 13, .bin .gtr (.t 12) (.c (.d (.v (.int .i64 10)))), none, 0⟩])
 (.cond 13 (.seq (.reg false [⟨some 4, .mv (.c (.d (.v (.bool true)))), none, 0⟩])
   (.ret))
   (.skip))
def K1009_3 : CC := .seq (.reg false [⟨some 9, .call (.c (.fn (.func 27) [] [])) [], none, 0⟩,
   ⟨some 10, .un .not (.t 9), none, 0⟩])
 (.cond 10 (.seq (.reg false [⟨some 4, .mv (.c (.d (.v (.bool false)))), none, 0⟩])
   (.ret))
   (.skip))
def K1009_4 : CC := .reg false [⟨some 4, .mv (.c (.d (.v (.bool false)))), none, 0⟩]
/-- coatcheck/coatchecklaw18.GuardPayload -/
def C1009 : CF := ⟨2, [(4, none)],
 .seq K1009_4 (.seq K1009_3 (.seq K1009_2 K1009_1))⟩
theorem c1009 : coF Try.prog Try.f6 = some C1009 := by kernel_rfl
def A1009 : Ann := { keep := [0, 1, 4, 5, 6, 7, 8, 10, 13], live := [] }
def E1009 {Ω : Type} : Env Ω := econs 27 S1041 (econs 28 Gd.S1042c (econs 29 Gd.S1043c (enil)))
theorem e1009 : GoodE Try.prog E1009 := GoodE.cons g1041 (GoodE.cons Gd.g1042c (GoodE.cons Gd.g1043c (GoodE.nil)))
end Go.Sx.Pr

/- GuardPayload: the law answers true on symbolic arguments. -/
namespace Go.Sx.Pr
namespace Gd
open Go Go.Sx Go.Sx.Md Go.Proofs
set_option maxRecDepth 100000
theorem n1009 {Ω : Type} (it : Itr Ω) (K : SV → SH → Option Ω) (n : Int) (ws : List Int) :
    sxFnI it E1009 A1009 C1009 [I n, .d (.ints .u64 ws)] [] K =
    br (decide ((↑ (List.length ws) : Int) > 10)) (K (B true) []) (br (decide (List.length ws < 1000000000) && u64B ws) (br (decide (List.length ws < 1000000000) && u64B ws) (br (Prod.fst (Gd.payV n ws) == Prod.fst (Gd.payV n ws)) (K (B (Prod.snd (Gd.payV n ws) == Prod.snd (Gd.payV n ws))) []) (K (B false) [])) none) none) := by kernel_rfl

theorem mainG {n : Int} {ws : List Int} (hu : u64B ws = true) : ∃ H, sxFn E1009 A1009 C1009 [I n, .d (.ints .u64 ws)] [] KS = some (B true, H) := by
  rw [← sxFnI_eq, n1009]
  by_cases h : (ws.length : Int) > 10
  · rw [decide_eq_true h, br_t]; exact ⟨_, rfl⟩
  · rw [decide_eq_false h, br_f, show (decide (ws.length < 1000000000) && u64B ws) = true by rw [hu, decide_eq_true (by omega)]; rfl, br_t, br_t, beq_self_eq_true, br_t, beq_self_eq_true]
    exact ⟨_, rfl⟩
end Gd
end Go.Sx.Pr
