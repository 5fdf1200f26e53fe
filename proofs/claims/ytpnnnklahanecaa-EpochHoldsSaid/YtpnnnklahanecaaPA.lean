/- Arguments of laws: a configuration, a list of words. -/
import Derived.Test.YtpnnnklahanecaaP42
import Derived.Test.YtpnnnklahanecaaSxArg
set_option linter.unusedVariables false
set_option linter.unusedSimpArgs false
namespace Go.Sx.Pr
open Go Go.Sx Go.Proofs Go.ChangeShapes Go.WideShapes Go.ChangeAt Go.RowKit
set_option maxRecDepth 100000

theorem laid : laidOutB Try.prog = true := by kernel_rfl
theorem rowed : mapsRowed Try.prog = true := by kernel_rfl
theorem slicesFull : ∀ t e, t < Try.prog.types.size → Try.prog.underlying t = some (.slice e) → 0 < Try.prog.cellsOf e := slices_full_of Try.prog (by kernel_rfl)
theorem typesN : Nat.blt 100 Try.prog.types.size = true := by kernel_rfl
theorem tlt {t : Nat} (h : t ≤ 100) : t < Try.prog.types.size := by
  have := Nat.le_of_ble_eq_true typesN
  omega
/-- Words, as a test. -/
def u64B (ws : List Int) : Bool := ws.all fun v => decide (0 ≤ v) && decide (v ≤ 18446744073709551615)

section
variable {H : Type} {enc : TypeId × Value → H} {w : World}

end
end Go.Sx.Pr
