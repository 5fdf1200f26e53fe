/- Contracts whose answer is a new row that nobody writes any more: data. -/
import Derived.Test.YtljmncdlehinnaaSxCon2
set_option linter.unusedVariables false
set_option linter.unusedSimpArgs false
namespace Go.Sx

def altsD {Ω : Type} (k : SV → List Nat → List Nat → SH → Option Ω) (h : SH) : List (Bool × Nat × Nat × (Nat → Nat → Value)) → Option Ω
  | [] => none
  | (g, sz, n, f) :: rest => br g (k (.d (.sl sz n fun i j => .v (f i j))) [] [] h) (altsD k h rest)

def firstD : List (Bool × Nat × Nat × (Nat → Nat → Value)) → Option (Nat × Nat × (Nat → Nat → Value))
  | [] => none
  | (g, x) :: rest => bif g then some x else firstD rest

def conSpecD (ts : List AT) (F : List (List Int) → List (Bool × Nat × Nat × (Nat → Nat → Value))) {Ω : Type} : Spec Ω := fun args h k =>
  match lendAs h ts args with
  | some l => altsD k h (F l)
  | none => none

theorem altsD_first {Ω : Type} {k : SV → List Nat → List Nat → SH → Option Ω} {h : SH} {out : Ω} : ∀ {L : List (Bool × Nat × Nat × (Nat → Nat → Value))}, altsD k h L = some out → ∃ sz n f, firstD L = some (sz, n, f) ∧ k (.d (.sl sz n fun i j => .v (f i j))) [] [] h = some out
  | [], e => by cases e
  | (g, sz, n, f) :: rest, e => by
    cases g with
    | true => exact ⟨sz, n, f, rfl, e⟩
    | false =>
      obtain ⟨sz', n', f', h1, h2⟩ := altsD_first (L := rest) e
      exact ⟨sz', n', f', h1, h2⟩

theorem altsD_of {Ω : Type} {k : SV → List Nat → List Nat → SH → Option Ω} {h : SH} : ∀ {L : List (Bool × Nat × Nat × (Nat → Nat → Value))} {sz n : Nat} {f : Nat → Nat → Value}, firstD L = some (sz, n, f) → altsD k h L = k (.d (.sl sz n fun i j => .v (f i j))) [] [] h
  | [], _, _, _, e => by cases e
  | (g, x) :: rest, sz, n, f, e => by
    cases g with
    | true =>
      simp only [firstD, cond_true, Option.some.injEq] at e
      subst e
      rfl
    | false => exact altsD_of (L := rest) e

theorem conD_par {ts : List AT} {F : List (List Int) → List (Bool × Nat × Nat × (Nat → Nat → Value))} {Ω Ω' : Type} : SpecPar (conSpecD ts F (Ω := Ω)) (conSpecD ts F (Ω := Ω')) := by
  intro args h k out hs
  unfold conSpecD at hs ⊢
  split at hs
  · rename_i l hl
    obtain ⟨sz, n, f, h1, h2⟩ := altsD_first hs
    exact ⟨_, _, _, _, h2, fun k' => altsD_of h1⟩
  · cases hs

theorem conGoodD {P : Program} {g : Nat} {fn : Func} (hf : P.funcs[g]? = some fn) (hname : (fn.name == "runtime.NumGoroutine") = false) {C : CF} (hC : coF P fn = some C) {A : Ann} {e : {Ω : Type} → Env Ω} (he : GoodE P e) (hmix : P.follows .mixedOrders = true)
    {ts : List AT} {F : List (List Int) → List (Bool × Nat × Nat × (Nat → Nat → Value))}
    (hrun : ∀ l sz n f, lenAs ts l → firstD (F l) = some (sz, n, f) → ∃ L H t q, sxFn (e (Ω := SV × SH)) A C (encAs ts l) [] (fun r h => some (r, h)) = some (.own L, H) ∧ hget H L = .row t sz n q ∧ ∀ i, i < n → ∀ j, j < sz → q i j = .v (f i j)) :
    Good1 P g (fun {Ω} => conSpecD ts F (Ω := Ω)) := by
  have hbody : ∃ c, fn.body = some c := by
    unfold coF at hC
    split at hC
    · rename_i c hb; exact ⟨c, hb⟩
    · cases hC
  obtain ⟨c, hb⟩ := hbody
  have henter : ∀ (args : Array Value) (w : World), (callFunc g args).run P w = .ok (.enter g args) w := fun args w => by
    have h1 : fn.name ≠ "runtime.NumGoroutine" := by simpa using hname
    simp [callFunc, hf, h1, hb]
  refine ⟨fun Ω => ⟨henter, fun args h k out hs => ?_⟩, fun Ω Ω' => conD_par⟩
  unfold conSpecD at hs
  split at hs
  · rename_i l hl
    obtain ⟨sz, n, f, hF, hk⟩ := altsD_first hs
    obtain ⟨L, H, t, q, hrun, hrow, hq⟩ := hrun l sz n f (lendAs_len hl) hF
    refine ⟨_, [], [], _, hk, ⟨Nat.le_refl _, fun _ _ _ => rfl⟩, fun cx w vals hg ha => ?_⟩
    refine (fn_calls (he.ok _) hmix hf hC hrun (cxA w) w vals (gamL w _) (lendAs_ok hg hl ha)).mono fun e w' ⟨v, cxs, e1, gr, hr, hG⟩ => ?_
    have hsame : ∀ b, b < w.heap.size → w'.heap[b]? = w.heap[b]? := fun b hb => gr.same b (cxL_all hb)
    have hobj := hG.obj L
    rw [hrow] at hobj
    obtain ⟨hln, hrs, hcp, hz, hh⟩ := hobj
    simp only [SRep] at hr
    have hnew : cxs.nl L = false → w.heap.size ≤ cxs.th L ∧ cxs.th L < w'.heap.size := fun hnl => by
      have hlv : liv cxs H L := by simp [liv, hrow, hnl]
      refine ⟨?_, hG.lt L hlv⟩
      rcases Nat.lt_or_ge (cxs.th L) w.heap.size with h1 | h1
      · exact absurd (gr.hd _ (cxL_all h1)) (hG.own L hlv)
      · exact h1
    have gr2 : Grow0 cx w { cx with fz := fun b => cx.fz b ∨ (b = cxs.th L ∧ cxs.nl L = false) } w' :=
      ⟨fun _ hb => .inl hb, fun b hb => hsame b (hg.fzlt b hb), gr.size, fun l hl _ => ⟨hl, rfl, rfl, rfl, rfl, rfl⟩, rfl, gr.io⟩
    have hlv : ∀ l, liv { cx with fz := fun b => cx.fz b ∨ (b = cxs.th L ∧ cxs.nl L = false) } h l → liv cx h l := fun l hl => hl
    have nm : (fun l => nmem l []) = fun _ => false := funext fun l => by simp [nmem]
    rw [nm]
    refine ⟨v, _, e1, gr2, ?_, ⟨hg.n, fun m => ?_, fun m hm => Nat.lt_of_lt_of_le (hg.lt m (hlv m hm)) gr.size, fun m hm hhd => ?_, fun a b ha hb => hg.inj a b (hlv a ha) (hlv b hb), fun b hb => ?_, fun b hb hfr => ?_⟩⟩
    · simp only [SRep, DRep]
      refine ⟨_, _, by rw [← hln]; exact hr.2, hcp, fun hn => ?_⟩
      cases hnl : cxs.nl L with
      | true => have := hz hnl; omega
      | false =>
        obtain ⟨t', c', hb, hs, hc⟩ := hh hnl
        refine ⟨cxs.th L, 0, by simp [], .inr ⟨rfl, rfl⟩, fun i hi j hj => ?_⟩
        obtain ⟨x, hx, hd⟩ := hc i hi j hj
        refine ⟨x, by simp [World.cell?, ad, hb, hx], ?_⟩
        rw [hq i hi j hj] at hd
        simpa [DRep] using hd
    · rcases Nat.lt_or_ge m h.length with hm | hm
      · exact ORep.keep (h := h) gr2 (hg.n ▸ hm) _ rfl (fun hv => hsame _ (hg.lt m hv)) (hg.obj m)
      · rw [hget_ge hm]; trivial
    · have h1 := hg.lt m (hlv m hm)
      rcases hhd with (h2 | ⟨h2, h3⟩) | h2
      · exact hg.own m (hlv m hm) (.inl h2)
      · have := (hnew h3).1
        simp only at h2
        omega
      · exact hg.own m (hlv m hm) (.inr h2)
    · rcases hb with (h2 | ⟨h2, h3⟩) | h2
      · exact Nat.lt_of_lt_of_le (hg.fzlt b (.inl h2)) gr.size
      · rw [h2]; exact (hnew h3).2
      · exact Nat.lt_of_lt_of_le (hg.fzlt b (.inr h2)) gr.size
    · rcases hb with h2 | ⟨h2, h3⟩
      · exact hg.dj b h2 hfr
      · have h4 := hg.fzlt b (.inr hfr)
        have := (hnew h3).1
        omega
  · cases hs
end Go.Sx
