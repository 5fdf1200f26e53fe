/- TakeSpares: the law answers true on symbolic arguments. -/
import Derived.Test.YtljmncdlehinnaaT32
import Derived.Test.YtljmncdlehinnaaT0
import Derived.Test.YtljmncdlehinnaaN4
import Derived.Test.YtljmncdlehinnaaR9
set_option linter.all false
set_option linter.unusedVariables false
set_option linter.unusedSimpArgs false
set_option linter.unnecessarySimpa false
namespace Go.Sx.Pr
open Go Go.Sx Go.Sx.Md Go.Proofs
set_option maxRecDepth 100000
theorem n1010 {Ω : Type} (it : Itr Ω) (K : SV → SH → Option Ω) (c : Cf) (ws : List Int) (e : Int) :
    sxFnI it E1010 A1010 C1010 [.agg (encC c), .d (.ints .u64 ws), .d (.v (.int .u64 e))] [] K =
    br (chkC c == 0) (br (decide (w64' (Cf.b c * Cf.c c) > 40)) (K (B true) [.cells 26 (encC c)]) (br (decide (Cf.e c > 16)) (K (B true) [.cells 26 (encC c)]) (br (decide ((↑ (List.length ws) : Int) > 400)) (K (B true) [.cells 26 (encC c)]) (br (u64B ws && uB e) (br (u64B ws && uB e) (K (B (spareV (c) ws e == spareV (c) ws e)) [.cells 26 (encC c)]) none) none)))) (br (decide ((↑ (List.length ws) : Int) > 400)) (K (B true) [.cells 26 (encC c)]) (br (u64B ws && uB e) (br (u64B ws && uB e) (K (B (spareV (c) ws e == spareV (c) ws e)) [.cells 26 (encC c)]) none) none)) := by kernel_rfl

theorem mainT {c : Cf} {ws : List Int} {e : Int} (hu : u64B ws = true) (he : uB e = true) : Tru (sxFn E1010 A1010 C1010 [.agg (encC c), .d (.ints .u64 ws), .d (.v (.int .u64 e))] [] KS) := by
  rw [← sxFnI_eq, n1010, hu, he]
  have fin : ∀ b : Bool, Tru (br b (KS (B true) [.cells 26 (encC c)]) (br (true && true) (br (true && true) (KS (B (spareV c ws e == spareV c ws e)) [.cells 26 (encC c)]) none) none)) := fun b => by
    refine Tru.br (fun _ => tru_ret) fun _ => ?_
    rw [Bool.and_self, br_t, br_t, beq_self_eq_true]
    exact tru_ret
  refine Tru.br (fun _ => ?_) fun _ => fin _
  exact Tru.br (fun _ => tru_ret) fun _ => Tru.br (fun _ => tru_ret) fun _ => fin _
end Go.Sx.Pr

/- A worker's state as an argument of a law. -/
namespace Go.Sx.Pr
open Go Go.Sx Go.Sx.Md Go.Proofs Go.ChangeShapes Go.WideShapes Go.ChangeAt Go.RowKit
set_option maxRecDepth 100000

theorem uB_wf {x : Int} (h : (Lit.int .u64 x).wf = true) : uB x = true := uB_iff.2 (u64_wf h)

section
variable {H : Type} {enc : TypeId × Value → H} {w : World}
end
end Go.Sx.Pr

/- A list of bytes as an argument of a law. -/
namespace Go.Sx.Pr
open Go Go.Sx Go.Proofs Go.ChangeShapes Go.WideShapes Go.ChangeAt Go.RowKit
set_option maxRecDepth 100000
section
variable {H : Type} {enc : TypeId × Value → H} {w : World}
end
end Go.Sx.Pr
