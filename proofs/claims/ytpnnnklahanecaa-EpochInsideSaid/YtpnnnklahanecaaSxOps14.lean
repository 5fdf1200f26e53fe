/- Operations, fourteenth part: calls. -/
import Derived.Test.YtpnnnklahanecaaSxOps13
namespace Go.Sx

/-- What a call does. -/
def CallsOK (P : Program) (g : Nat) (args : List SV) (h : SH) (r : SV) (m sc : List Nat) (h' : SH) : Prop :=
  Keeps m h h' ∧ ∀ (cx : Cx) (w : World) (vals : List Value), Gam cx h w → SRepL cx w args vals →
    Calls P g ⟨vals⟩ w fun e w' => ∃ v cx', e = .returned v ∧ Grow (fun l => nmem l sc) cx w cx' w' ∧ SRep cx' w' r v ∧ Gam cx' h' w'

def SpecOK (P : Program) (g : Nat) {Ω : Type} (sp : Spec Ω) : Prop :=
  (∀ (args : Array Value) (w : World), (callFunc g args).run P w = .ok (.enter g args) w) ∧
  ∀ args h k out, sp args h k = some out → ∃ r m sc h', k r m sc h' = some out ∧ CallsOK P g args h r m sc h'

def EnvOK (P : Program) {Ω : Type} (env : Env Ω) : Prop := ∀ g sp, env g = some sp → SpecOK P g sp

theorem scrubTs_mem : ∀ {sc : List Nat} {t : List (Nat × SV)} {i : Nat} {x : SV}, (i, x) ∈ scrubTs t sc → (i, x) ∈ t ∧ ∀ l ∈ sc, ment (Nat.beq l) x = false
  | [], t, i, x, h => ⟨h, by simp⟩
  | l :: r, t, i, x, h => by
    obtain ⟨h1, h2⟩ := scrubTs_mem (sc := r) h
    obtain ⟨h3, h4⟩ := scrubT_mem h1
    exact ⟨h3, by intro m hm; rcases List.mem_cons.1 hm with rfl | hm; exact h4; exact h2 m hm⟩

 mutual
theorem ment_or {p q r : Nat → Bool} (hr : ∀ l, r l = true → p l = true ∨ q l = true) : ∀ x : SV, ment p x = false → ment q x = false → ment r x = false
  | .d _, _, _ | .rp _ _ _, _, _ | .top, _, _ => by simp [ment]
  | .ptr l _, h1, h2 | .pe l _ _, h1, h2 | .own l, h1, h2 | .mp l, h1, h2 | .cs l _ _ _ _, h1, h2 => by
    simp only [ment] at *
    cases h : r l with
    | false => rfl
    | true => rcases hr l h with h | h <;> simp_all
  | .fn _ a b, h1, h2 => by
    simp only [ment, Bool.or_eq_false_iff] at *
    exact ⟨mentL_or hr a h1.1 h2.1, mentL_or hr b h1.2 h2.2⟩
  | .agg c, h1, h2 | .tup c, h1, h2 => by simp only [ment] at *; exact mentL_or hr c h1 h2
theorem mentL_or {p q r : Nat → Bool} (hr : ∀ l, r l = true → p l = true ∨ q l = true) : ∀ c : List SV, mentL p c = false → mentL q c = false → mentL r c = false
  | [], _, _ => rfl
  | x :: c, h1, h2 => by
    simp only [mentL, Bool.or_eq_false_iff] at *
    exact ⟨ment_or hr x h1.1 h2.1, mentL_or hr c h1.2 h2.2⟩
end

theorem ment_sub {p q : Nat → Bool} (hr : ∀ l, q l = true → p l = true) (x : SV) (h : ment p x = false) : ment q x = false := ment_or (fun l h => .inl (hr l h)) x h h

theorem ment_sc : ∀ (sc : List Nat) (x : SV), (∀ l ∈ sc, ment (Nat.beq l) x = false) → ment (fun l => nmem l sc) x = false
  | [], x, _ => by
    have : (fun l => nmem l []) = fun _ => false := funext fun l => by simp [nmem]
    rw [this]; exact ment_none x
  | m :: r, x, h => ment_or (p := Nat.beq m) (q := fun l => nmem l r) (fun l hl => by
      simp only [nmem] at hl
      cases hb : Nat.beq m l with
      | true => exact .inl rfl
      | false => rw [hb] at hl; exact .inr hl) x (h m (by simp)) (ment_sc r x fun l hl => h l (by simp [hl]))

theorem TRep.scrubs {cx cx' : Cx} {w w' : World} {sc : List Nat} (g : Grow (fun l => nmem l sc) cx w cx' w') {t : List (Nat × SV)} {tm : Array Value} (h : TRep cx w t tm) : TRep cx' w' (scrubTs t sc) tm :=
  fun i x hx => by
    obtain ⟨h1, h2⟩ := scrubTs_mem hx
    exact ⟨(h i x h1).1, SRep.mono g x _ (ment_sc sc x h2) (h i x h1).2⟩

section
variable {P : Program} {A : Ann} {o : Oper} {s : SS} {Ω : Type} {k : SV → List Nat → SS → Option Ω} {out : Ω}

/-- A call: what it gives, and that it does so. -/
def PlainC (P : Program) (o : Oper) (s : SS) (q : SV → List Nat → List Nat → SH → Option Ω) (out : Ω) : Prop :=
  ∃ r m sc h', q r m sc h' = some out ∧ OpOKp P (fun l => nmem l sc) o s r ⟨scrubTs s.t sc, h'⟩ ∧ Keeps m s.h h'

theorem snd_call {f : Operand} {args : Array Operand} {ats : Array TypeId} {f' : CA} {args' : List CA} (ho : o.op = .call { callee := .value f, args := args, argTypes := ats }) (hf : coA f = some f') (ha : coL args.toList = some args')
    {env : Env Ω} (he : EnvOK P env) {q : SV → List Nat → List Nat → SH → Option Ω} {g : Nat} {a b : List SV} (hv : ev s.t f' = .fn (.func g) a b) {sp : Spec Ω} (hg : env g = some sp)
    (h : sp (a ++ (evL s.t args' ++ b)) s.h q = some out) : PlainC P o s q out := by
  obtain ⟨henter, hsp⟩ := he g sp hg
  obtain ⟨r, m, sc, h', h1, hk, hc⟩ := hsp _ _ _ _ h
  refine ⟨r, m, sc, h', h1, fun cx w ac hG ht next Q hn => ?_, hk⟩
  have hfv := eval_coA hf ht
  rw [hv] at hfv
  simp only [SRep] at hfv
  obtain ⟨a', b', hfe, hra, hrb⟩ := hfv
  have hrl := eval_coL ht ha
  have hcall := hc cx w _ hG (hra.append (hrl.append hrb))
  unfold Oper.wp
  have : (execOp ac.eval o).run P w = .ok (.enter g ⟨a' ++ (args.toList.map ac.eval ++ b')⟩) w := by
    have e1 : (⟨a'⟩ ++ args.map ac.eval ++ ⟨b'⟩ : Array Value) = ⟨a' ++ (args.toList.map ac.eval ++ b')⟩ := Array.ext' (by simp)
    simp [execOp, ho, resolve, hfe, Deferred.ofValue, invoke, henter]
    try exact e1
  rw [this, Oper.upon_enter]
  refine hcall.mono fun e w' ⟨v, cx', he, gr, hr, hG'⟩ => ?_
  subst he
  exact hn cx' w' v gr hr (TRep.scrubs gr ht) hG'
end
end Go.Sx
