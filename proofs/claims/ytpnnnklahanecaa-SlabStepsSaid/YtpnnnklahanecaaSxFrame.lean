/- A callee whose arguments reach nothing: it runs on an empty heap, and what it makes is set behind the caller's. -/
import Derived.Test.YtpnnnklahanecaaSxClone
set_option linter.unusedVariables false
namespace Go.Sx

/-- The spec of a function whose arguments hold no loc. -/
def inlF {Ω : Type} (env : Env Ω) (A : Ann) (C : CF) : Spec Ω := fun args h k =>
  bif mentL (fun _ => true) args then none else
    sxFn env { A with n0 := 0, ap := [] } C args [] fun r h' => k (shft h.length r) [] [] (h ++ shftH h.length (trim 0 r [] h'))

theorem inlF_ok {P : Program} {A : Ann} {Ω : Type} {env : Env Ω} {env' : Env (SV × SH)} (he : EnvOK P env') (hp : EnvPar env env') (hmix : P.follows .mixedOrders = true) {g : Nat} {fn : Func} (hf : P.funcs[g]? = some fn) (hname : (fn.name == "runtime.NumGoroutine") = false) {C : CF} (hC : coF P fn = some C) :
    SpecOK P g (inlF env A C) := by
  have hbody : ∃ c, fn.body = some c := by
    unfold coF at hC
    split at hC
    · rename_i c hb; exact ⟨c, hb⟩
    · cases hC
  obtain ⟨c, hb⟩ := hbody
  refine ⟨fun args w => ?_, fun args h k out hs => ?_⟩
  · have h1 : fn.name ≠ "runtime.NumGoroutine" := by simpa using hname
    simp [callFunc, hf, h1, hb]
  · unfold inlF at hs
    cases hm : mentL (fun _ => true) args with
    | true => rw [hm] at hs; cases hs
    | false =>
      rw [hm] at hs
      simp only [cond_false] at hs
      obtain ⟨r, h', h1, h2⟩ := sxFn_par hp hs
      refine ⟨_, [], [], _, h1, ⟨by simp, fun l hl _ => by rw [hget_app, if_pos hl]⟩, fun cx w vals hg ha => ?_⟩
      have hcalls := fn_calls he hmix hf hC (h2 fun r h => some (r, h)) (cxF cx w) w vals (gamF hg) (SRepL.noloc (cx := cx) (cx' := cxF cx w) rfl _ _ hm ha)
      refine hcalls.mono fun e w' ⟨v, cxq, e1, grq, hrq, hGq⟩ => ?_
      obtain ⟨cxs, hG, hr, hgrow⟩ := trim_sound (n0 := 0) (m := []) hGq hrq
      have gr := hgrow (Nat.le_refl _) grq
      obtain ⟨k1, k2⟩ := join_gam hg gr hG
      have nm : (fun l => nmem l []) = fun _ => false := funext fun l => by simp [nmem]
      rw [nm]
      exact ⟨v, _, e1, k2, by rw [← hg.n]; exact SRep.shft _ _ hr, k1⟩

theorem inlF_par {A : Ann} {Ω Ω' : Type} {env : Env Ω} {env' : Env Ω'} (hp : EnvPar env env') {C : CF} : SpecPar (inlF env A C) (inlF env' A C) := by
  intro args h k out hs
  unfold inlF at hs ⊢
  cases hm : mentL (fun _ => true) args with
  | true => rw [hm] at hs; cases hs
  | false =>
    rw [hm] at hs
    simp only [cond_false] at hs ⊢
    obtain ⟨r, h', h1, h2⟩ := sxFn_par hp hs
    exact ⟨_, _, _, _, h1, fun k' => by rw [h2]⟩

theorem Good1.inlF {P : Program} {e : {Ω : Type} → Env Ω} (he : GoodE P e) (hmix : P.follows .mixedOrders = true) {g : Nat} {fn : Func} (hf : P.funcs[g]? = some fn) (hname : (fn.name == "runtime.NumGoroutine") = false) {C : CF} (hC : coF P fn = some C) (A : Ann) :
    Good1 P g (fun {Ω} => Sx.inlF (e (Ω := Ω)) A C) :=
  ⟨fun Ω => inlF_ok (he.ok _) (he.par Ω _) hmix hf hname hC, fun Ω Ω' => inlF_par (he.par Ω Ω')⟩

/-- A spec that answers only as another one does. -/
theorem Good1.sub {P : Program} {n : Nat} {s s' : {Ω : Type} → Spec Ω} (h : Good1 P n s) (hs : ∀ Ω args hh k out, s' (Ω := Ω) args hh k = some out → s (Ω := Ω) args hh k = some out) (hp : ∀ Ω Ω', SpecPar (s' (Ω := Ω)) (s' (Ω := Ω'))) : Good1 P n s' :=
  ⟨fun Ω => ⟨(h.ok Ω).1, fun args hh k out ho => (h.ok Ω).2 args hh k out (hs Ω args hh k out ho)⟩, hp⟩
end Go.Sx
