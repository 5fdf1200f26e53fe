/- A callee whose arguments reach nothing: it runs on an empty heap, and what it makes is set behind the caller's. -/
import Derived.Test.YtljmncdlehinnaaSxClone
set_option linter.unusedVariables false
set_option linter.unusedSimpArgs false
namespace Go.Sx

/-- A spec that answers only as another one does. -/
theorem Good1.sub {P : Program} {n : Nat} {s s' : {Ω : Type} → Spec Ω} (h : Good1 P n s) (hs : ∀ Ω args hh k out, s' (Ω := Ω) args hh k = some out → s (Ω := Ω) args hh k = some out) (hp : ∀ Ω Ω', SpecPar (s' (Ω := Ω)) (s' (Ω := Ω'))) : Good1 P n s' :=
  ⟨fun Ω => ⟨(h.ok Ω).1, fun args hh k out ho => (h.ok Ω).2 args hh k out (hs Ω args hh k out ho)⟩, hp⟩
end Go.Sx
