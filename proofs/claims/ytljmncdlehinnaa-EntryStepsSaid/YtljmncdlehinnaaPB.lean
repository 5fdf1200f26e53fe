/- A worker's state as an argument of a law. -/
import Derived.Test.YtljmncdlehinnaaPA
import Derived.Test.YtljmncdlehinnaaR7
set_option linter.unusedVariables false
set_option linter.unusedSimpArgs false
namespace Go.Sx.Pr
open Go Go.Sx Go.Sx.Md Go.Proofs Go.ChangeShapes Go.WideShapes Go.ChangeAt Go.RowKit
set_option maxRecDepth 100000

theorem flatW : flatT Try.prog 6 40 = some ctsW := by kernel_rfl
theorem suppW (n : Nat) : suppT Try.prog (n + 6) 40 = true := by kernel_rfl

theorem uB_wf {x : Int} (h : (Lit.int .u64 x).wf = true) : uB x = true := uB_iff.2 (u64_wf h)

section
variable {H : Type} {enc : TypeId × Value → H} {w : World}
theorem work_arg {v : Value} {d : DataW H} {p : List MemPlace} (h : DataW.Trod enc Try.prog w 0 (fun _ => true) true 40 v d p) : ∃ x : Wk, okW x = true ∧ SRep (cx0 w) w (.agg (encW x)) v := by
  obtain ⟨n, L, hW, hR⟩ := arg_rep (kids_rows laid rowed) slicesFull (t := 40) (tlt (by omega)) (m := 6) suppW h
  obtain ⟨iv, bv, sv, h1, h2⟩ := agg_arg (cx := cx0 w) (n := 6) (m := n) flatW (by decide) hW hR
  refine ⟨ofF iv bv sv, ?_, h2⟩
  simp only [ctsW, wfC] at h1
  obtain ⟨_, _, a2, a3, _, _, _, a9, _, a11, _, a13, _, a15, _, _, _, _, _, _, _, a23, a24, a25, a26, a27, _, _, a30, _, _⟩ := h1
  simp only [okW, ofF, uB_wf a2, uB_wf a3, uB_wf a9, uB_wf a11, uB_wf a13, uB_wf a15, uB_wf a23, uB_wf a24, uB_wf a25, uB_wf a26, uB_wf a27, uB_wf a30, Bool.and_self]
end
end Go.Sx.Pr
