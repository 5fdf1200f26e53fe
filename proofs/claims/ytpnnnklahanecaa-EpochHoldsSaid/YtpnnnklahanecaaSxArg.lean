/- A law's arguments as symbolic values. -/
import Derived.Test.YtpnnnklahanecaaSxLoop
set_option linter.unusedVariables false
set_option linter.unusedSimpArgs false
namespace Go.Sx

def getI : DV → Int
  | .v (.int _ x) => x
  | _ => 0

theorem cell_rep {fz : Nat → Prop} {w : World} {x : DV} {v : Value} (h : DRepL fz w [x] v.cells.toList) (hn : ∀ c, v ≠ .agg c) : DRep fz w x v := by
  have e : v.cells = #[v] := by
    cases v with
    | agg c => exact absurd rfl (hn c)
    | _ => rfl
  rw [e] at h
  simpa using h.2 0 (by simp)

end Go.Sx
