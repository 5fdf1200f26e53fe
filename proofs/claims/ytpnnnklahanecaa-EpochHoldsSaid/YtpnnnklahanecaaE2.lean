/- Lists in memory: a chain of links, and the walk along it. Plain Lean. -/
import Derived.Test.YtpnnnklahanecaaE1
set_option linter.unusedVariables false
set_option linter.unusedSimpArgs false
namespace Go.Sx.Pr
open Go Go.Sx Go.Sx.Md

def Chain (nx : Int → Int) : Int → List Int → Prop
  | t, [] => t = 0
  | t, i :: L => t = i + 1 ∧ Chain nx (nx i) L

theorem Chain.congr {nx nx' : Int → Int} : ∀ {L : List Int} {t : Int}, Chain nx t L → (∀ i, i ∈ L → nx' i = nx i) → Chain nx' t L
  | [], _, h, _ => h
  | i :: L, _, ⟨h1, h2⟩, hn => ⟨h1, by rw [hn i (by simp)]; exact h2.congr fun j hj => hn j (by simp [hj])⟩

end Go.Sx.Pr
