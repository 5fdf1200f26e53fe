/- Contract: the document's entry word of a free entry. -/
import Derived.Test.YtpnnnklahanecaaM3
namespace Go.Sx.Pr
open Go Go.Sx Go.Proofs
set_option maxRecDepth 100000
def FEnt : List (List Int) → Option (Bool × SV × SH)
  | [[1], [-1], [0]] => some (true, U 1048576, [])
  | _ => none
def S69 {Ω : Type} : Spec Ω := conSpec [.i .u64, .i .i64, .i .i64] FEnt
theorem run69 : sxFn (E69 (Ω := SV)) A69 C69 [U 1, I (-1), I 0] [] (fun r _ => some r) = some (U 1048576) := by kernel_rfl
theorem g69 : Good1 Try.prog 69 S69 := conGood Try.func69 (by kernel_rfl) c69 e69 mix (A := A69) fun l r hr hl hF => by
  unfold FEnt at hF
  split at hF
  · simp only [Option.some.injEq, Prod.mk.injEq, true_and] at hF
    obtain ⟨rfl, rfl⟩ := hF
    obtain ⟨H, hH⟩ := run_of_val e69 run69
    exact ⟨trivial, trivial, H, trim_none rfl _, hH⟩
  · cases hF
end Go.Sx.Pr
