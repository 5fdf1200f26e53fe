/- Rows of workers' states and of bools, as functions of their places. -/
import Derived.Test.YtpnnnklahanecaaR7
set_option linter.unusedVariables false
set_option linter.unusedSimpArgs false
namespace Go.Sx.Pr
open Go Go.Sx Go.Sx.Md
def rowW (a : Nat → Wk) : Nat → Nat → DV := fun i j => lkD ((encW (a i)).map dv) j
def rowB (s : Nat → Bool) : Nat → Nat → DV := fun i j => lkD [.v (.bool (s i))] j
def wk0 : Wk := ⟨0, 0, 0, 0, 0, false, 0, 0, false, 0, [], 0, [], 0, [], 0, [], [], 0, 0, 0, 0, 0, 0, 0, 0, 0, 0, 0, [], 0, 0, false⟩
end Go.Sx.Pr
