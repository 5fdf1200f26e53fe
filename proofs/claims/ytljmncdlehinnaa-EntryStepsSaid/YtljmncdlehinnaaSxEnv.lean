/- Environments put together one callee at a time. -/
import Derived.Test.YtljmncdlehinnaaSxDec
set_option linter.unusedVariables false
set_option linter.unusedSimpArgs false
namespace Go.Sx

def enil {Ω : Type} : Env Ω := fun _ => none
def econs {Ω : Type} (n : Nat) (s : Spec Ω) (env : Env Ω) : Env Ω := fun g => bif Nat.beq g n then some s else env g

def SpecPar {Ω Ω' : Type} (sp : Spec Ω) (sp' : Spec Ω') : Prop := ∀ args h k out, sp args h k = some out → ∃ r m sc h', k r m sc h' = some out ∧ ∀ k', sp' args h k' = k' r m sc h'

theorem EnvOK.nil {P : Program} {Ω : Type} : EnvOK P (enil (Ω := Ω)) := fun g sp h => by cases h
theorem EnvPar.nil {Ω Ω' : Type} : EnvPar (enil (Ω := Ω)) (enil (Ω := Ω')) := fun g sp h => by cases h

theorem EnvOK.cons {P : Program} {Ω : Type} {n : Nat} {s : Spec Ω} {env : Env Ω} (h : SpecOK P n s) (he : EnvOK P env) : EnvOK P (econs n s env) := fun g sp hg => by
  unfold econs at hg
  cases hb : Nat.beq g n with
  | true =>
    rw [hb] at hg
    simp only [cond_true, Option.some.injEq] at hg
    subst hg
    rw [nbeq.1 hb]; exact h
  | false => rw [hb] at hg; exact he g sp hg

theorem EnvPar.cons {Ω Ω' : Type} {n : Nat} {s : Spec Ω} {s' : Spec Ω'} {env : Env Ω} {env' : Env Ω'} (h : SpecPar s s') (he : EnvPar env env') : EnvPar (econs n s env) (econs n s' env') := fun g sp hg => by
  unfold econs at hg ⊢
  cases hb : Nat.beq g n with
  | true =>
    rw [hb] at hg
    simp only [cond_true, Option.some.injEq] at hg
    subst hg
    exact ⟨s', rfl, h⟩
  | false => rw [hb] at hg; exact he g sp hg

/-- A spec for every result type. -/
structure Good1 (P : Program) (n : Nat) (s : {Ω : Type} → Spec Ω) : Prop where
  ok : ∀ Ω, SpecOK P n (s (Ω := Ω))
  par : ∀ Ω Ω', SpecPar (s (Ω := Ω)) (s (Ω := Ω'))

structure GoodE (P : Program) (e : {Ω : Type} → Env Ω) : Prop where
  ok : ∀ Ω, EnvOK P (e (Ω := Ω))
  par : ∀ Ω Ω', EnvPar (e (Ω := Ω)) (e (Ω := Ω'))

theorem GoodE.nil {P : Program} : GoodE P enil := ⟨fun _ => .nil, fun _ _ => .nil⟩
theorem GoodE.cons {P : Program} {n : Nat} {s : {Ω : Type} → Spec Ω} {e : {Ω : Type} → Env Ω} (h : Good1 P n s) (he : GoodE P e) : GoodE P (fun {Ω} => econs n (s (Ω := Ω)) (e (Ω := Ω))) :=
  ⟨fun Ω => (he.ok Ω).cons (h.ok Ω), fun Ω Ω' => (he.par Ω Ω').cons (h.par Ω Ω')⟩

theorem Good1.inl {P : Program} {e : {Ω : Type} → Env Ω} (he : GoodE P e) (hmix : P.follows .mixedOrders = true) {g : Nat} {fn : Func} (hf : P.funcs[g]? = some fn) (hname : (fn.name == "runtime.NumGoroutine") = false) {C : CF} (hC : coF P fn = some C) (A : Ann) (w : Bool) :
    Good1 P g (fun {Ω} => inl (e (Ω := Ω)) A C w) :=
  ⟨fun Ω => inl_ok (he.ok _) (he.par Ω _) hmix hf hname hC w, fun Ω Ω' => inl_par (he.par Ω Ω')⟩
end Go.Sx
