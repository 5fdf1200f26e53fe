/- Contracts with several outcomes; rows of which only what lies within counts. -/
import Derived.Test.YtpnnnklahanecaaSxArg
set_option linter.unusedVariables false
set_option linter.unusedSimpArgs false
namespace Go.Sx

def alts {Ω : Type} (k : SV → List Nat → List Nat → SH → Option Ω) (h : SH) : List (Bool × SV × SH) → Option Ω
  | [] => none
  | (g, r, hr) :: rest => br g (k (shft h.length r) [] [] (h ++ shftH h.length hr)) (alts k h rest)

def firstAlt : List (Bool × SV × SH) → Option (SV × SH)
  | [] => none
  | (g, r, hr) :: rest => bif g then some (r, hr) else firstAlt rest

def conSpecL (ts : List AT) (F : List (List Int) → List (Bool × SV × SH)) {Ω : Type} : Spec Ω := fun args h k =>
  match lendAs h ts args with
  | some l => alts k h (F l)
  | none => none

theorem alts_first {Ω : Type} {k : SV → List Nat → List Nat → SH → Option Ω} {h : SH} {out : Ω} : ∀ {L : List (Bool × SV × SH)}, alts k h L = some out → ∃ r hr, firstAlt L = some (r, hr) ∧ k (shft h.length r) [] [] (h ++ shftH h.length hr) = some out
  | [], e => by cases e
  | (g, r, hr) :: rest, e => by
    cases g with
    | true => exact ⟨r, hr, rfl, e⟩
    | false =>
      obtain ⟨r', hr', h1, h2⟩ := alts_first (L := rest) e
      exact ⟨r', hr', h1, h2⟩

theorem alts_of {Ω : Type} {k : SV → List Nat → List Nat → SH → Option Ω} {h : SH} : ∀ {L : List (Bool × SV × SH)} {r : SV} {hr : SH}, firstAlt L = some (r, hr) → alts k h L = k (shft h.length r) [] [] (h ++ shftH h.length hr)
  | [], r, hr, e => by cases e
  | (g, r', hr') :: rest, r, hr, e => by
    cases g with
    | true =>
      simp only [firstAlt, cond_true, Option.some.injEq, Prod.mk.injEq] at e
      obtain ⟨rfl, rfl⟩ := e
      rfl
    | false => exact alts_of (L := rest) e

theorem conL_par {ts : List AT} {F : List (List Int) → List (Bool × SV × SH)} {Ω Ω' : Type} : SpecPar (conSpecL ts F (Ω := Ω)) (conSpecL ts F (Ω := Ω')) := by
  intro args h k out hs
  unfold conSpecL at hs ⊢
  split at hs
  · rename_i l hl
    obtain ⟨r, hr, h1, h2⟩ := alts_first hs
    exact ⟨_, _, _, _, h2, fun k' => alts_of h1⟩
  · cases hs

/-- The same, but for what lies outside of a row. -/
def RowEqO (o o' : SO) : Prop := o = o' ∨ ∃ t sz n f f', o = .row t sz n f ∧ o' = .row t sz n f' ∧ ∀ i, i < n → ∀ j, j < sz → f i j = f' i j
def RowEq : SH → SH → Prop
  | [], [] => True
  | o :: r, o' :: r' => RowEqO o o' ∧ RowEq r r'
  | _, _ => False

theorem RowEq.refl : ∀ h : SH, RowEq h h
  | [] => trivial
  | _ :: r => ⟨.inl rfl, RowEq.refl r⟩
theorem RowEq.length : ∀ {h h' : SH}, RowEq h h' → h.length = h'.length
  | [], [], _ => rfl
  | _ :: r, _ :: r', e => by simp [RowEq.length e.2]
  | [], _ :: _, e => e.elim
  | _ :: _, [], e => e.elim
theorem RowEq.get : ∀ {h h' : SH}, RowEq h h' → ∀ l, RowEqO (hget h l) (hget h' l)
  | [], [], _, l => .inl rfl
  | _ :: r, _ :: r', e, 0 => by simpa [hget] using e.1
  | _ :: r, _ :: r', e, l + 1 => by simpa [hget] using RowEq.get e.2 l
  | [], _ :: _, e, _ => e.elim
  | _ :: _, [], e, _ => e.elim

theorem Gam.rowEq {cx : Cx} {h h' : SH} {w : World} (g : Gam cx h w) (e : RowEq h h') : Gam cx h' w := by
  have hlv : ∀ l, liv cx h' l → liv cx h l := fun l hl => by
    rcases e.get l with e1 | ⟨t, sz, n, f, f', e1, e2, _⟩
    · unfold liv at hl ⊢; rw [e1]; exact hl
    · unfold liv at hl ⊢; rw [e2] at hl; rw [e1]; exact hl
  refine ⟨by rw [← e.length]; exact g.n, fun l => ?_, fun l hl => g.lt l (hlv l hl), fun l hl => g.own l (hlv l hl), fun l m hl hm => g.inj l m (hlv l hl) (hlv m hm), g.fzlt, g.dj⟩
  have ho := g.obj l
  rcases e.get l with e1 | ⟨t, sz, n, f, f', e1, e2, e3⟩
  · rw [← e1]; exact ho
  · rw [e1] at ho
    rw [e2]
    simp only [ORep] at ho ⊢
    refine ⟨ho.1, ho.2.1, ho.2.2.1, ho.2.2.2.1, fun hn => ?_⟩
    obtain ⟨t', c', h1, h2, h3⟩ := ho.2.2.2.2 hn
    refine ⟨t', c', h1, h2, fun i hi j hj => ?_⟩
    obtain ⟨x, hx, hr⟩ := h3 i hi j hj
    exact ⟨x, hx, by rw [← e3 i hi j hj]; exact hr⟩

theorem conGoodL {P : Program} {g : Nat} {fn : Func} (hf : P.funcs[g]? = some fn) (hname : (fn.name == "runtime.NumGoroutine") = false) {C : CF} (hC : coF P fn = some C) {A : Ann} {e : {Ω : Type} → Env Ω} (he : GoodE P e) (hmix : P.follows .mixedOrders = true)
    {ts : List AT} {F : List (List Int) → List (Bool × SV × SH)}
    (hrun : ∀ l r hr, lenAs ts l → firstAlt (F l) = some (r, hr) → Flat r ∧ FlatH hr ∧ ∃ hr0 H, RowEq hr0 hr ∧ trim 0 r [] H = hr0 ∧ sxFn (e (Ω := SV × SH)) A C (encAs ts l) [] (fun r h => some (r, h)) = some (r, H)) :
    Good1 P g (fun {Ω} => conSpecL ts F (Ω := Ω)) := by
  have hbody : ∃ c, fn.body = some c := by
    unfold coF at hC
    split at hC
    · rename_i c hb; exact ⟨c, hb⟩
    · cases hC
  obtain ⟨c, hb⟩ := hbody
  have henter : ∀ (args : Array Value) (w : World), (callFunc g args).run P w = .ok (.enter g args) w := fun args w => by
    have h1 : fn.name ≠ "runtime.NumGoroutine" := by simpa using hname
    simp [callFunc, hf, h1, hb]
  refine ⟨fun Ω => ⟨henter, fun args h k out hs => ?_⟩, fun Ω Ω' => conL_par⟩
  unfold conSpecL at hs
  split at hs
  · rename_i l hl
    obtain ⟨r, hr, hF, hk⟩ := alts_first hs
    obtain ⟨f1, f2, hr0, H, heq, htr, hrun⟩ := hrun l r hr (lendAs_len hl) hF
    refine ⟨_, [], [], _, hk, ⟨by simp, fun l hl _ => by rw [hget_app, if_pos hl]⟩, fun cx w vals hg ha => ?_⟩
    refine (fn_calls (he.ok _) hmix hf hC hrun (cxA w) w vals (gamL w _) (lendAs_ok hg hl ha)).mono fun e w' ⟨v, cxq, e1, grq, hrq, hGq⟩ => ?_
    obtain ⟨cxs, hG, hr', hgrow⟩ := trim_sound (n0 := 0) (m := []) hGq hrq
    rw [htr] at hG
    have gr := hgrow (Nat.le_refl _) grq
    obtain ⟨k1, k2⟩ := join_flat hg gr (hG.rowEq heq) f2
    have nm : (fun l => nmem l []) = fun _ => false := funext fun l => by simp [nmem]
    rw [nm]
    exact ⟨v, _, e1, k2, by rw [← hg.n]; exact SRep.flat _ _ f1 hr', k1⟩
  · cases hs
end Go.Sx
