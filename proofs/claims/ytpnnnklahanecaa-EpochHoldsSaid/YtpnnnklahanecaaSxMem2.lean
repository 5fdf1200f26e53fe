/- Contracts with memory of functions that leave some of the locs as they are. -/
import Derived.Test.YtpnnnklahanecaaSxMem
set_option linter.unusedVariables false
set_option linter.unusedSimpArgs false
namespace Go.Sx

theorem locC_idx {ls : List Nat} {n l i : Nat} (h : idx l ls 0 = some i) : locC ls n i = l := by
  obtain ⟨_, h2, h3⟩ := idx_some h
  simp only [Nat.sub_zero] at h2 h3
  unfold locC
  rw [show Nat.blt i ls.length = true from Nat.ble_eq_true_of_le h2]
  exact h3

 mutual
theorem ren_unr {ls : List Nat} {n : Nat} : ∀ (x y : SV), unr ls x = some y → ren (locC ls n) y = x
  | .d x, y, e | .rp sz g o, y, e | .top, y, e => by simp only [unr, Option.some.injEq] at e; subst e; simp only [ren]
  | .ptr l o, y, e => by
      simp only [unr] at e; obtain ⟨i, h1, rfl⟩ := onI_some e; simp only [ren, locC_idx h1]
  | .pe l j o, y, e => by
      simp only [unr] at e; obtain ⟨i, h1, rfl⟩ := onI_some e; simp only [ren, locC_idx h1]
  | .own l, y, e => by
      simp only [unr] at e; obtain ⟨i, h1, rfl⟩ := onI_some e; simp only [ren, locC_idx h1]
  | .cs l o sz m c, y, e => by
      simp only [unr] at e; obtain ⟨i, h1, rfl⟩ := onI_some e; simp only [ren, locC_idx h1]
  | .mp l, y, e => by
      simp only [unr] at e; obtain ⟨i, h1, rfl⟩ := onI_some e; simp only [ren, locC_idx h1]
  | .fn g a b, y, e => by
      simp only [unr] at e
      split at e
      · rename_i a' b' ha hb
        simp only [Option.some.injEq] at e; subst e
        simp only [ren, renL_unr a a' ha, renL_unr b b' hb]
      · cases e
  | .agg c, y, e => by
      simp only [unr] at e
      split at e
      · rename_i c' hc
        simp only [Option.some.injEq] at e; subst e
        simp only [ren, renL_unr c c' hc]
      · cases e
  | .tup c, y, e => by
      simp only [unr] at e
      split at e
      · rename_i c' hc
        simp only [Option.some.injEq] at e; subst e
        simp only [ren, renL_unr c c' hc]
      · cases e
theorem renL_unr {ls : List Nat} {n : Nat} : ∀ (x y : List SV), unrL ls x = some y → renL (locC ls n) y = x
  | [], y, e => by simp only [unrL, Option.some.injEq] at e; subst e; simp only [renL]
  | x :: r, y, e => by
      simp only [unrL] at e
      split at e
      · rename_i y' s' h1 h2
        simp only [Option.some.injEq] at e; subst e
        simp only [renL, ren_unr x y' h1, renL_unr r s' h2]
      · cases e
end
theorem renO_unr {ls : List Nat} {n : Nat} {o o' : SO} (e : unrO ls o = some o') : renO (locC ls n) o' = o := by
  cases o with
  | cells t c =>
    simp only [unrO] at e
    split at e
    · rename_i c' hc
      simp only [Option.some.injEq] at e; subst e
      simp only [renO, renL_unr c c' hc]
    · cases e
  | maps es => cases e
  | dead => simp only [unrO, Option.some.injEq] at e; subst e; rfl
  | rowi t k xs => simp only [unrO, Option.some.injEq] at e; subst e; rfl
  | row t sz n f => simp only [unrO, Option.some.injEq] at e; subst e; rfl
  | mapi k es => simp only [unrO, Option.some.injEq] at e; subst e; rfl
  | mapb es => simp only [unrO, Option.some.injEq] at e; subst e; rfl

def altsW {Ω : Type} (ls wr sc : List Nat) (k : SV → List Nat → List Nat → SH → Option Ω) (h : SH) : List Alt → Option Ω
  | [] => none
  | (g, r, h1) :: rest => br g (bif Nat.ble ls.length h1.length then k (ren (locC ls h.length) r) wr sc (setLs h ls (renH (locC ls h.length) h1) ++ (renH (locC ls h.length) h1).drop ls.length) else none) (altsW ls wr sc k h rest)

/-- wr: the places of the locs that it may write. -/
def memSpecW (ts : List (Option (List CT))) (find : SH → List SV → Option (List Nat)) (wr : List Nat) (F : List SV → SH → List Alt) {Ω : Type} : Spec Ω := fun args h k =>
  match find h args with
  | none => none
  | some ls => match nrmA ls ts args, unrH ls h ls with
    | some a0, some h0 => bif okLs h.length ls then altsW ls (wr.map fun i => ls.getD i 0) [] k h (F a0 h0) else none
    | _, _ => none

theorem altsW_first {Ω : Type} {ls wr sc : List Nat} {k : SV → List Nat → List Nat → SH → Option Ω} {h : SH} {out : Ω} : ∀ {L : List Alt}, altsW ls wr sc k h L = some out → ∃ r h1, firstAlt L = some (r, h1) ∧ ls.length ≤ h1.length ∧ k (ren (locC ls h.length) r) wr sc (setLs h ls (renH (locC ls h.length) h1) ++ (renH (locC ls h.length) h1).drop ls.length) = some out
  | [], e => by cases e
  | (g, r, h1) :: rest, e => by
    cases g with
    | true =>
      simp only [altsW, br, cond_true] at e
      obtain ⟨e1, e2⟩ := cond_some e
      exact ⟨r, h1, rfl, Nat.le_of_ble_eq_true e1, e2⟩
    | false =>
      obtain ⟨r', hr', h1, h2⟩ := altsW_first (L := rest) e
      exact ⟨r', hr', h1, h2⟩

theorem altsW_of {Ω : Type} {ls wr sc : List Nat} {k : SV → List Nat → List Nat → SH → Option Ω} {h : SH} : ∀ {L : List Alt} {r : SV} {h1 : SH}, firstAlt L = some (r, h1) → ls.length ≤ h1.length → altsW ls wr sc k h L = k (ren (locC ls h.length) r) wr sc (setLs h ls (renH (locC ls h.length) h1) ++ (renH (locC ls h.length) h1).drop ls.length)
  | [], r, hr, e, _ => by cases e
  | (g, r', hr') :: rest, r, hr, e, hl => by
    cases g with
    | true =>
      simp only [firstAlt, cond_true, Option.some.injEq, Prod.mk.injEq] at e
      obtain ⟨rfl, rfl⟩ := e
      simp only [altsW, br, cond_true]
      rw [Nat.ble_eq_true_of_le hl]
      rfl
    | false => exact altsW_of (L := rest) e hl

theorem memW_par {ts : List (Option (List CT))} {find : SH → List SV → Option (List Nat)} {wr : List Nat} {F : List SV → SH → List Alt} {Ω Ω' : Type} : SpecPar (memSpecW ts find wr F (Ω := Ω)) (memSpecW ts find wr F (Ω := Ω')) := by
  intro args h k out hs
  unfold memSpecW at hs ⊢
  split at hs
  · cases hs
  · rename_i ls hls
    split at hs
    · rename_i a0 h0 ha hh
      obtain ⟨e1, hs⟩ := cond_some hs
      obtain ⟨r, h1, k1, k2, k3⟩ := altsW_first hs
      refine ⟨_, _, _, _, k3, fun k' => ?_⟩
      simp only [e1, cond_true]
      exact altsW_of k1 k2
    · cases hs

theorem aside_nil {ls : List Nat} : ∀ {h : SH} {i : Nat}, aside ls [] i h = true
  | [], _ => rfl
  | o :: r, i => by
    simp only [aside, Bool.and_eq_true, Bool.or_eq_true, Bool.not_eq_true']
    refine ⟨.inr ?_, aside_nil⟩
    have : (fun l => nmem l []) = fun _ => false := funext fun l => by simp [nmem]
    rw [this]; exact mentO_none o

theorem memGoodW {P : Program} {g : Nat} {fn : Func} (hf : P.funcs[g]? = some fn) (hname : (fn.name == "runtime.NumGoroutine") = false) {C : CF} (hC : coF P fn = some C) {A : Ann} {e : {Ω : Type} → Env Ω} (he : GoodE P e) (hmix : P.follows .mixedOrders = true)
    {ts : List (Option (List CT))} {find : SH → List SV → Option (List Nat)} {wr : List Nat} {F : List SV → SH → List Alt}
    (hrun : ∀ a0 h0 r h1, firstAlt (F a0 h0) = some (r, h1) → (∀ i, i < h0.length → nmem i wr = false → hget h1 i = hget h0 i) ∧ ∃ r0 hr0 H, LeV r0 r ∧ RowEq hr0 h1 ∧ trim h0.length r0 (List.range h0.length) H = hr0 ∧
      sxFn (e (Ω := SV × SH)) { A with n0 := h0.length, ap := [] } C a0 h0 (fun r h => some (r, h)) = some (r0, H)) :
    Good1 P g (fun {Ω} => memSpecW ts find wr F (Ω := Ω)) := by
  have hbody : ∃ c, fn.body = some c := by
    unfold coF at hC
    split at hC
    · rename_i c hb; exact ⟨c, hb⟩
    · cases hC
  obtain ⟨c, hb⟩ := hbody
  have henter : ∀ (args : Array Value) (w : World), (callFunc g args).run P w = .ok (.enter g args) w := fun args w => by
    have h1 : fn.name ≠ "runtime.NumGoroutine" := by simpa using hname
    simp [callFunc, hf, h1, hb]
  refine ⟨fun Ω => ⟨henter, fun args h k out hs => ?_⟩, fun Ω Ω' => memW_par⟩
  unfold memSpecW at hs
  split at hs
  · cases hs
  · rename_i ls hls
    split at hs
    · rename_i a0 h0 ha hh
      obtain ⟨hok, hs⟩ := cond_some hs
      obtain ⟨r, h1, k1, k2, k3⟩ := altsW_first hs
      obtain ⟨hkeep, r0, hr0, H, hle, heq, htr, hrun⟩ := hrun a0 h0 r h1 k1
      have hlen := (unrH_get hh).1
      refine ⟨_, _, _, _, k3, ⟨by simp only [List.length_append, setLs_length]; omega, fun l hl hlm => ?_⟩, fun cx w vals hg hargs => ?_⟩
      · rw [hget_app, setLs_length, if_pos hl, setLs_get hok rfl (by rw [renH_length]; exact k2)]
        cases hi : idx l ls 0 with
        | none => rfl
        | some i =>
          obtain ⟨_, h2, h3⟩ := idx_some hi
          simp only [Nat.sub_zero] at h2 h3
          simp only
          have hni : nmem i wr = false := by
            cases hb : nmem i wr with
            | false => rfl
            | true =>
              have := nmem_map (ls := ls) hb
              rw [h3, hlm] at this; cases this
          have h4 := (unrH_get hh).2 i h2
          rw [renH_get, hkeep i (by omega) hni, renO_unr h4, h3]
      · have hcalls := fn_calls (A := { A with n0 := h0.length, ap := [] }) (he.ok _) hmix hf hC hrun (cxM cx h ls) w vals (gamM hg hok hh) (nrmA_ok ha hargs)
        refine hcalls.mono fun e w' ⟨v, cxq, e1, grq, hrq, hGq⟩ => ?_
        obtain ⟨cxs, hG, hr, hgrow⟩ := trim_sound (n0 := h0.length) (m := List.range h0.length) hGq hrq
        have gr := hgrow (by simp only [cxM, hlen]; exact Nat.le_refl _) grq
        rw [htr] at hG
        have hG' := hG.rowEq heq
        obtain ⟨q1, q2⟩ := back_gam (ap := []) hg hok (fun i hi => by cases hi) aside_nil (fun i hi hni => by
          simp only [Ann.p, Ann.ok, hni, Bool.or_false]
          cases hb : Nat.ble h0.length i with
          | false => rfl
          | true => have := Nat.le_of_ble_eq_true hb; omega) gr hG' k2
        exact ⟨v, _, e1, q1, SRep.ren (rnR hok (by have := hG'.n; omega)) _ _ (LeV.rep _ _ _ hle hr), q2⟩
    · cases hs
end Go.Sx
