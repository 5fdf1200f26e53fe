/- A worker's state as an argument of a law. -/
import Derived.Test.YtpnnnklahanecaaPA
import Derived.Test.YtpnnnklahanecaaR7
set_option linter.unusedVariables false
set_option linter.unusedSimpArgs false
namespace Go.Sx.Pr
open Go Go.Sx Go.Sx.Md Go.Proofs Go.ChangeShapes Go.WideShapes Go.ChangeAt Go.RowKit
set_option maxRecDepth 100000

section
variable {H : Type} {enc : TypeId × Value → H} {w : World}
end
end Go.Sx.Pr
