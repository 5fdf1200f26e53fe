/- A list of bytes as an argument of a law. -/
import Derived.Test.YtpnnnklahanecaaPA
set_option linter.unusedVariables false
set_option linter.unusedSimpArgs false
namespace Go.Sx.Pr
open Go Go.Sx Go.Proofs Go.ChangeShapes Go.WideShapes Go.ChangeAt Go.RowKit
set_option maxRecDepth 100000
theorem u8_wf {x : Int} (h : (Lit.int .u8 x).wf = true) : 0 ≤ x ∧ x ≤ 255 := by
  simp only [Lit.wf, Bool.and_eq_true, IntKind.min, IntKind.max, IntKind.signed, IntKind.bits] at h
  simpa using h
section
variable {H : Type} {enc : TypeId × Value → H} {w : World}
theorem bytes_arg {v : Value} {d : DataW H} {p : List MemPlace} {r : Reach} {base : Nat} (hv : Value.okWide Try.prog w r base 89 v) (h : DataW.Trod enc Try.prog w 0 (fun _ => true) true 89 v d p) :
    ∃ ws : List Int, (∀ x, x ∈ ws → 0 ≤ x ∧ x ≤ 255) ∧ SRep (cx0 w) w (.d (.ints .u8 ws)) v := by
  obtain ⟨n, L, hW, hR⟩ := arg_rep (kids_rows laid rowed) slicesFull (t := 89) (tlt (by omega)) (m := 2) (fun n => by simp only [suppT, Try.underlying89, Try.underlying5]) h
  rw [show n + 2 = (n + 1) + 1 from rfl] at hW
  simp only [Wt, Try.underlying89, Try.underlying5] at hW
  obtain ⟨ws, rfl, _, hws⟩ := hW
  refine ⟨ws, fun x hx => u8_wf (hws x hx), ?_⟩
  simp only [SRep]
  exact cell_rep hR fun c e => by
    subst e
    simp only [Value.okWide, Try.underlying89] at hv
    exact cell_not_agg hv ⟨_, Try.underlying89, .inr (.inr (.inr ⟨_, rfl⟩))⟩
end
end Go.Sx.Pr
