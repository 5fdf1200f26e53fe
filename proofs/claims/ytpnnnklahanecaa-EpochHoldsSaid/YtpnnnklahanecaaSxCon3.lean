/- Contracts whose answer is a new row that nobody writes any more: data. -/
import Derived.Test.YtpnnnklahanecaaSxCon2
set_option linter.unusedVariables false
set_option linter.unusedSimpArgs false
namespace Go.Sx

def firstD : List (Bool × Nat × Nat × (Nat → Nat → Value)) → Option (Nat × Nat × (Nat → Nat → Value))
  | [] => none
  | (g, x) :: rest => bif g then some x else firstD rest

end Go.Sx
