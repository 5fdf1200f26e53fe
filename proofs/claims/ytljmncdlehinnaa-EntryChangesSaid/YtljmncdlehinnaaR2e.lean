/- Contracts with memory of functions that leave some of the locs as they are. -/
import Derived.Test.YtljmncdlehinnaaR2
import Derived.Test.YtljmncdlehinnaaQ3
import Derived.Test.YtljmncdlehinnaaN1
import Derived.Test.YtljmncdlehinnaaRows
import Derived.KernelRfl
import Derived.Test.YtljmncdlehinnaaR2
import Derived.Test.YtljmncdlehinnaaR2
set_option linter.all false
set_option linter.unusedVariables false
set_option linter.unusedSimpArgs false
set_option linter.unnecessarySimpa false
namespace Go.Sx

theorem locC_idx {ls : List Nat} {n l i : Nat} (h : idx l ls 0 = some i) : locC ls n i = l := by
  obtain ⟨_, h2, h3⟩ := idx_some h
  simp only [Nat.sub_zero] at h2 h3
  unfold locC
  rw [show Nat.blt i ls.length = true from Nat.ble_eq_true_of_le h2]
  exact h3

 mutual
theorem ren_unr {ls : List Nat} {n : Nat} : ∀ (x y : SV), unr ls x = some y → ren (locC ls n) y = x
  | .d x, y, e | .rp sz g o, y, e | .top, y, e => by simp only [unr, Option.some.injEq] at e; subst e; simp only [ren]
  | .ptr l o, y, e => by
      simp only [unr] at e; obtain ⟨i, h1, rfl⟩ := onI_some e; simp only [ren, locC_idx h1]
  | .pe l j o, y, e => by
      simp only [unr] at e; obtain ⟨i, h1, rfl⟩ := onI_some e; simp only [ren, locC_idx h1]
  | .own l, y, e => by
      simp only [unr] at e; obtain ⟨i, h1, rfl⟩ := onI_some e; simp only [ren, locC_idx h1]
  | .cs l o sz m c, y, e => by
      simp only [unr] at e; obtain ⟨i, h1, rfl⟩ := onI_some e; simp only [ren, locC_idx h1]
  | .mp l, y, e => by
      simp only [unr] at e; obtain ⟨i, h1, rfl⟩ := onI_some e; simp only [ren, locC_idx h1]
  | .fn g a b, y, e => by
      simp only [unr] at e
      split at e
      · rename_i a' b' ha hb
        simp only [Option.some.injEq] at e; subst e
        simp only [ren, renL_unr a a' ha, renL_unr b b' hb]
      · cases e
  | .agg c, y, e => by
      simp only [unr] at e
      split at e
      · rename_i c' hc
        simp only [Option.some.injEq] at e; subst e
        simp only [ren, renL_unr c c' hc]
      · cases e
  | .tup c, y, e => by
      simp only [unr] at e
      split at e
      · rename_i c' hc
        simp only [Option.some.injEq] at e; subst e
        simp only [ren, renL_unr c c' hc]
      · cases e
theorem renL_unr {ls : List Nat} {n : Nat} : ∀ (x y : List SV), unrL ls x = some y → renL (locC ls n) y = x
  | [], y, e => by simp only [unrL, Option.some.injEq] at e; subst e; simp only [renL]
  | x :: r, y, e => by
      simp only [unrL] at e
      split at e
      · rename_i y' s' h1 h2
        simp only [Option.some.injEq] at e; subst e
        simp only [renL, ren_unr x y' h1, renL_unr r s' h2]
      · cases e
end
theorem renO_unr {ls : List Nat} {n : Nat} {o o' : SO} (e : unrO ls o = some o') : renO (locC ls n) o' = o := by
  cases o with
  | cells t c =>
    simp only [unrO] at e
    split at e
    · rename_i c' hc
      simp only [Option.some.injEq] at e; subst e
      simp only [renO, renL_unr c c' hc]
    · cases e
  | maps es => cases e
  | dead => simp only [unrO, Option.some.injEq] at e; subst e; rfl
  | rowi t k xs => simp only [unrO, Option.some.injEq] at e; subst e; rfl
  | row t sz n f => simp only [unrO, Option.some.injEq] at e; subst e; rfl
  | mapi k es => simp only [unrO, Option.some.injEq] at e; subst e; rfl
  | mapb es => simp only [unrO, Option.some.injEq] at e; subst e; rfl

def altsW {Ω : Type} (ls wr sc : List Nat) (k : SV → List Nat → List Nat → SH → Option Ω) (h : SH) : List Alt → Option Ω
  | [] => none
  | (g, r, h1) :: rest => br g (bif Nat.ble ls.length h1.length then k (ren (locC ls h.length) r) wr sc (setLs h ls (renH (locC ls h.length) h1) ++ (renH (locC ls h.length) h1).drop ls.length) else none) (altsW ls wr sc k h rest)

/-- wr: the places of the locs that it may write. -/
def memSpecW (ts : List (Option (List CT))) (find : SH → List SV → Option (List Nat)) (wr : List Nat) (F : List SV → SH → List Alt) {Ω : Type} : Spec Ω := fun args h k =>
  match find h args with
  | none => none
  | some ls => match nrmA ls ts args, unrH ls h ls with
    | some a0, some h0 => bif okLs h.length ls then altsW ls (wr.map fun i => ls.getD i 0) [] k h (F a0 h0) else none
    | _, _ => none

theorem altsW_first {Ω : Type} {ls wr sc : List Nat} {k : SV → List Nat → List Nat → SH → Option Ω} {h : SH} {out : Ω} : ∀ {L : List Alt}, altsW ls wr sc k h L = some out → ∃ r h1, firstAlt L = some (r, h1) ∧ ls.length ≤ h1.length ∧ k (ren (locC ls h.length) r) wr sc (setLs h ls (renH (locC ls h.length) h1) ++ (renH (locC ls h.length) h1).drop ls.length) = some out
  | [], e => by cases e
  | (g, r, h1) :: rest, e => by
    cases g with
    | true =>
      simp only [altsW, br, cond_true] at e
      obtain ⟨e1, e2⟩ := cond_some e
      exact ⟨r, h1, rfl, Nat.le_of_ble_eq_true e1, e2⟩
    | false =>
      obtain ⟨r', hr', h1, h2⟩ := altsW_first (L := rest) e
      exact ⟨r', hr', h1, h2⟩

theorem altsW_of {Ω : Type} {ls wr sc : List Nat} {k : SV → List Nat → List Nat → SH → Option Ω} {h : SH} : ∀ {L : List Alt} {r : SV} {h1 : SH}, firstAlt L = some (r, h1) → ls.length ≤ h1.length → altsW ls wr sc k h L = k (ren (locC ls h.length) r) wr sc (setLs h ls (renH (locC ls h.length) h1) ++ (renH (locC ls h.length) h1).drop ls.length)
  | [], r, hr, e, _ => by cases e
  | (g, r', hr') :: rest, r, hr, e, hl => by
    cases g with
    | true =>
      simp only [firstAlt, cond_true, Option.some.injEq, Prod.mk.injEq] at e
      obtain ⟨rfl, rfl⟩ := e
      simp only [altsW, br, cond_true]
      rw [Nat.ble_eq_true_of_le hl]
      rfl
    | false => exact altsW_of (L := rest) e hl

theorem memW_par {ts : List (Option (List CT))} {find : SH → List SV → Option (List Nat)} {wr : List Nat} {F : List SV → SH → List Alt} {Ω Ω' : Type} : SpecPar (memSpecW ts find wr F (Ω := Ω)) (memSpecW ts find wr F (Ω := Ω')) := by
  intro args h k out hs
  unfold memSpecW at hs ⊢
  split at hs
  · cases hs
  · rename_i ls hls
    split at hs
    · rename_i a0 h0 ha hh
      obtain ⟨e1, hs⟩ := cond_some hs
      obtain ⟨r, h1, k1, k2, k3⟩ := altsW_first hs
      refine ⟨_, _, _, _, k3, fun k' => ?_⟩
      simp only [e1, cond_true]
      exact altsW_of k1 k2
    · cases hs

theorem aside_nil {ls : List Nat} : ∀ {h : SH} {i : Nat}, aside ls [] i h = true
  | [], _ => rfl
  | o :: r, i => by
    simp only [aside, Bool.and_eq_true, Bool.or_eq_true, Bool.not_eq_true']
    refine ⟨.inr ?_, aside_nil⟩
    have : (fun l => nmem l []) = fun _ => false := funext fun l => by simp [nmem]
    rw [this]; exact mentO_none o

theorem memGoodW {P : Program} {g : Nat} {fn : Func} (hf : P.funcs[g]? = some fn) (hname : (fn.name == "runtime.NumGoroutine") = false) {C : CF} (hC : coF P fn = some C) {A : Ann} {e : {Ω : Type} → Env Ω} (he : GoodE P e) (hmix : P.follows .mixedOrders = true)
    {ts : List (Option (List CT))} {find : SH → List SV → Option (List Nat)} {wr : List Nat} {F : List SV → SH → List Alt}
    (hrun : ∀ a0 h0 r h1, firstAlt (F a0 h0) = some (r, h1) → (∀ i, i < h0.length → nmem i wr = false → hget h1 i = hget h0 i) ∧ ∃ r0 hr0 H, LeV r0 r ∧ RowEq hr0 h1 ∧ trim h0.length r0 (List.range h0.length) H = hr0 ∧
      sxFn (e (Ω := SV × SH)) { A with n0 := h0.length, ap := [] } C a0 h0 (fun r h => some (r, h)) = some (r0, H)) :
    Good1 P g (fun {Ω} => memSpecW ts find wr F (Ω := Ω)) := by
  have hbody : ∃ c, fn.body = some c := by
    unfold coF at hC
    split at hC
    · rename_i c hb; exact ⟨c, hb⟩
    · cases hC
  obtain ⟨c, hb⟩ := hbody
  have henter : ∀ (args : Array Value) (w : World), (callFunc g args).run P w = .ok (.enter g args) w := fun args w => by
    have h1 : fn.name ≠ "runtime.NumGoroutine" := by simpa using hname
    simp [callFunc, hf, h1, hb]
  refine ⟨fun Ω => ⟨henter, fun args h k out hs => ?_⟩, fun Ω Ω' => memW_par⟩
  unfold memSpecW at hs
  split at hs
  · cases hs
  · rename_i ls hls
    split at hs
    · rename_i a0 h0 ha hh
      obtain ⟨hok, hs⟩ := cond_some hs
      obtain ⟨r, h1, k1, k2, k3⟩ := altsW_first hs
      obtain ⟨hkeep, r0, hr0, H, hle, heq, htr, hrun⟩ := hrun a0 h0 r h1 k1
      have hlen := (unrH_get hh).1
      refine ⟨_, _, _, _, k3, ⟨by simp only [List.length_append, setLs_length]; omega, fun l hl hlm => ?_⟩, fun cx w vals hg hargs => ?_⟩
      · rw [hget_app, setLs_length, if_pos hl, setLs_get hok rfl (by rw [renH_length]; exact k2)]
        cases hi : idx l ls 0 with
        | none => rfl
        | some i =>
          obtain ⟨_, h2, h3⟩ := idx_some hi
          simp only [Nat.sub_zero] at h2 h3
          simp only
          have hni : nmem i wr = false := by
            cases hb : nmem i wr with
            | false => rfl
            | true =>
              have := nmem_map (ls := ls) hb
              rw [h3, hlm] at this; cases this
          have h4 := (unrH_get hh).2 i h2
          rw [renH_get, hkeep i (by omega) hni, renO_unr h4, h3]
      · have hcalls := fn_calls (A := { A with n0 := h0.length, ap := [] }) (he.ok _) hmix hf hC hrun (cxM cx h ls) w vals (gamM hg hok hh) (nrmA_ok ha hargs)
        refine hcalls.mono fun e w' ⟨v, cxq, e1, grq, hrq, hGq⟩ => ?_
        obtain ⟨cxs, hG, hr, hgrow⟩ := trim_sound (n0 := h0.length) (m := List.range h0.length) hGq hrq
        have gr := hgrow (by simp only [cxM, hlen]; exact Nat.le_refl _) grq
        rw [htr] at hG
        have hG' := hG.rowEq heq
        obtain ⟨q1, q2⟩ := back_gam (ap := []) hg hok (fun i hi => by cases hi) aside_nil (fun i hi hni => by
          simp only [Ann.p, Ann.ok, hni, Bool.or_false]
          cases hb : Nat.ble h0.length i with
          | false => rfl
          | true => have := Nat.le_of_ble_eq_true hb; omega) gr hG' k2
        exact ⟨v, _, e1, q1, SRep.ren (rnR hok (by have := hG'.n; omega)) _ _ (LeV.rep _ _ _ hle hr), q2⟩
    · cases hs
end Go.Sx

/- All: a copy of a memory's words. -/
namespace Go.Sx.Pr
open Go Go.Sx Go.Sx.Md Go.Proofs
set_option maxRecDepth 100000
theorem n33 {m : Mm} {t tw : TypeId} : sxFn (E33 (Ω := SV × SH)) (An A33 2) C33 [.ptr 0 0] (objs LM t tw m) (KT 2) = br (fits m.ws.length 8) (some (.own 2, [.cells t (LM.enc m), .rowi tw .u64 m.ws, .rowi 24 .u64 m.ws])) none := by kernel_rfl
def F33 : List SV → SH → List Alt := fun a0 h0 => match a0, h0 with
  | [.ptr 0 0], [.cells t c, .rowi tw .u64 ws] => bif isM c then [(fits ws.length 8, .own 2, [.cells t c, .rowi tw .u64 ws, .rowi 24 .u64 ws])] else []
  | _, _ => []
def S33c {Ω : Type} : Spec Ω := memSpecW [none] (findM 13) [] F33
theorem g33c : Good1 Try.prog 17 S33c := memGoodW (A := A33) Try.func17 (by kernel_rfl) c33 e33 mix fun a0 h0 r h1 hF => by
  unfold F33 at hF
  split at hF
  · rename_i t c tw ws
    obtain ⟨hc, hF⟩ := bif_nil rfl hF
    cases hl : fits ws.length 8 with
    | false => rw [hl] at hF; cases hF
    | true =>
      rw [hl] at hF
      simp only [firstAlt, cond_true, Option.some.injEq, Prod.mk.injEq] at hF
      obtain ⟨rfl, rfl⟩ := hF
      obtain ⟨e1, e2⟩ := lay_M c ws hc
      have hv := n33 (m := LM.dec c ws) (t := t) (tw := tw)
      rw [show objs LM t tw (LM.dec c ws) = [.cells t c, .rowi tw .u64 ws] by simp only [objs, e1, e2], e1, e2, hl, br_t] at hv
      obtain ⟨H, q3, q4⟩ := kt_of e33 hv
      refine ⟨fun i hi _ => ?_, _, _, H, LeV.refl _, RowEq.refl _, q3, q4⟩
      match i, hi with
      | 0, _ => rfl
      | 1, _ => rfl
      | i + 2, hi => exact absurd hi (by simp only [List.length_cons, List.length_nil]; omega)
  · cases hF
end Go.Sx.Pr

/- Contracts whose answer is a new row that nobody writes any more: data. -/
namespace Go.Sx

def altsD {Ω : Type} (k : SV → List Nat → List Nat → SH → Option Ω) (h : SH) : List (Bool × Nat × Nat × (Nat → Nat → Value)) → Option Ω
  | [] => none
  | (g, sz, n, f) :: rest => br g (k (.d (.sl sz n fun i j => .v (f i j))) [] [] h) (altsD k h rest)

def firstD : List (Bool × Nat × Nat × (Nat → Nat → Value)) → Option (Nat × Nat × (Nat → Nat → Value))
  | [] => none
  | (g, x) :: rest => bif g then some x else firstD rest

def conSpecD (ts : List AT) (F : List (List Int) → List (Bool × Nat × Nat × (Nat → Nat → Value))) {Ω : Type} : Spec Ω := fun args h k =>
  match lendAs h ts args with
  | some l => altsD k h (F l)
  | none => none

theorem altsD_first {Ω : Type} {k : SV → List Nat → List Nat → SH → Option Ω} {h : SH} {out : Ω} : ∀ {L : List (Bool × Nat × Nat × (Nat → Nat → Value))}, altsD k h L = some out → ∃ sz n f, firstD L = some (sz, n, f) ∧ k (.d (.sl sz n fun i j => .v (f i j))) [] [] h = some out
  | [], e => by cases e
  | (g, sz, n, f) :: rest, e => by
    cases g with
    | true => exact ⟨sz, n, f, rfl, e⟩
    | false =>
      obtain ⟨sz', n', f', h1, h2⟩ := altsD_first (L := rest) e
      exact ⟨sz', n', f', h1, h2⟩

theorem altsD_of {Ω : Type} {k : SV → List Nat → List Nat → SH → Option Ω} {h : SH} : ∀ {L : List (Bool × Nat × Nat × (Nat → Nat → Value))} {sz n : Nat} {f : Nat → Nat → Value}, firstD L = some (sz, n, f) → altsD k h L = k (.d (.sl sz n fun i j => .v (f i j))) [] [] h
  | [], _, _, _, e => by cases e
  | (g, x) :: rest, sz, n, f, e => by
    cases g with
    | true =>
      simp only [firstD, cond_true, Option.some.injEq] at e
      subst e
      rfl
    | false => exact altsD_of (L := rest) e

theorem conD_par {ts : List AT} {F : List (List Int) → List (Bool × Nat × Nat × (Nat → Nat → Value))} {Ω Ω' : Type} : SpecPar (conSpecD ts F (Ω := Ω)) (conSpecD ts F (Ω := Ω')) := by
  intro args h k out hs
  unfold conSpecD at hs ⊢
  split at hs
  · rename_i l hl
    obtain ⟨sz, n, f, h1, h2⟩ := altsD_first hs
    exact ⟨_, _, _, _, h2, fun k' => altsD_of h1⟩
  · cases hs

theorem conGoodD {P : Program} {g : Nat} {fn : Func} (hf : P.funcs[g]? = some fn) (hname : (fn.name == "runtime.NumGoroutine") = false) {C : CF} (hC : coF P fn = some C) {A : Ann} {e : {Ω : Type} → Env Ω} (he : GoodE P e) (hmix : P.follows .mixedOrders = true)
    {ts : List AT} {F : List (List Int) → List (Bool × Nat × Nat × (Nat → Nat → Value))}
    (hrun : ∀ l sz n f, lenAs ts l → firstD (F l) = some (sz, n, f) → ∃ L H t q, sxFn (e (Ω := SV × SH)) A C (encAs ts l) [] (fun r h => some (r, h)) = some (.own L, H) ∧ hget H L = .row t sz n q ∧ ∀ i, i < n → ∀ j, j < sz → q i j = .v (f i j)) :
    Good1 P g (fun {Ω} => conSpecD ts F (Ω := Ω)) := by
  have hbody : ∃ c, fn.body = some c := by
    unfold coF at hC
    split at hC
    · rename_i c hb; exact ⟨c, hb⟩
    · cases hC
  obtain ⟨c, hb⟩ := hbody
  have henter : ∀ (args : Array Value) (w : World), (callFunc g args).run P w = .ok (.enter g args) w := fun args w => by
    have h1 : fn.name ≠ "runtime.NumGoroutine" := by simpa using hname
    simp [callFunc, hf, h1, hb]
  refine ⟨fun Ω => ⟨henter, fun args h k out hs => ?_⟩, fun Ω Ω' => conD_par⟩
  unfold conSpecD at hs
  split at hs
  · rename_i l hl
    obtain ⟨sz, n, f, hF, hk⟩ := altsD_first hs
    obtain ⟨L, H, t, q, hrun, hrow, hq⟩ := hrun l sz n f (lendAs_len hl) hF
    refine ⟨_, [], [], _, hk, ⟨Nat.le_refl _, fun _ _ _ => rfl⟩, fun cx w vals hg ha => ?_⟩
    refine (fn_calls (he.ok _) hmix hf hC hrun (cxA w) w vals (gamL w _) (lendAs_ok hg hl ha)).mono fun e w' ⟨v, cxs, e1, gr, hr, hG⟩ => ?_
    have hsame : ∀ b, b < w.heap.size → w'.heap[b]? = w.heap[b]? := fun b hb => gr.same b (cxL_all hb)
    have hobj := hG.obj L
    rw [hrow] at hobj
    obtain ⟨hln, hrs, hcp, hz, hh⟩ := hobj
    simp only [SRep] at hr
    have hnew : cxs.nl L = false → w.heap.size ≤ cxs.th L ∧ cxs.th L < w'.heap.size := fun hnl => by
      have hlv : liv cxs H L := by simp [liv, hrow, hnl]
      refine ⟨?_, hG.lt L hlv⟩
      rcases Nat.lt_or_ge (cxs.th L) w.heap.size with h1 | h1
      · exact absurd (gr.hd _ (cxL_all h1)) (hG.own L hlv)
      · exact h1
    have gr2 : Grow0 cx w { cx with fz := fun b => cx.fz b ∨ (b = cxs.th L ∧ cxs.nl L = false) } w' :=
      ⟨fun _ hb => .inl hb, fun b hb => hsame b (hg.fzlt b hb), gr.size, fun l hl _ => ⟨hl, rfl, rfl, rfl, rfl, rfl⟩, rfl, gr.io⟩
    have hlv : ∀ l, liv { cx with fz := fun b => cx.fz b ∨ (b = cxs.th L ∧ cxs.nl L = false) } h l → liv cx h l := fun l hl => hl
    have nm : (fun l => nmem l []) = fun _ => false := funext fun l => by simp [nmem]
    rw [nm]
    refine ⟨v, _, e1, gr2, ?_, ⟨hg.n, fun m => ?_, fun m hm => Nat.lt_of_lt_of_le (hg.lt m (hlv m hm)) gr.size, fun m hm hhd => ?_, fun a b ha hb => hg.inj a b (hlv a ha) (hlv b hb), fun b hb => ?_, fun b hb hfr => ?_⟩⟩
    · simp only [SRep, DRep]
      refine ⟨_, _, by rw [← hln]; exact hr.2, hcp, fun hn => ?_⟩
      cases hnl : cxs.nl L with
      | true => have := hz hnl; omega
      | false =>
        obtain ⟨t', c', hb, hs, hc⟩ := hh hnl
        refine ⟨cxs.th L, 0, by simp [], .inr ⟨rfl, rfl⟩, fun i hi j hj => ?_⟩
        obtain ⟨x, hx, hd⟩ := hc i hi j hj
        refine ⟨x, by simp [World.cell?, ad, hb, hx], ?_⟩
        rw [hq i hi j hj] at hd
        simpa [DRep] using hd
    · rcases Nat.lt_or_ge m h.length with hm | hm
      · exact ORep.keep (h := h) gr2 (hg.n ▸ hm) _ rfl (fun hv => hsame _ (hg.lt m hv)) (hg.obj m)
      · rw [hget_ge hm]; trivial
    · have h1 := hg.lt m (hlv m hm)
      rcases hhd with (h2 | ⟨h2, h3⟩) | h2
      · exact hg.own m (hlv m hm) (.inl h2)
      · have := (hnew h3).1
        simp only at h2
        omega
      · exact hg.own m (hlv m hm) (.inr h2)
    · rcases hb with (h2 | ⟨h2, h3⟩) | h2
      · exact Nat.lt_of_lt_of_le (hg.fzlt b (.inl h2)) gr.size
      · rw [h2]; exact (hnew h3).2
      · exact Nat.lt_of_lt_of_le (hg.fzlt b (.inr h2)) gr.size
    · rcases hb with h2 | ⟨h2, h3⟩
      · exact hg.dj b h2 hfr
      · have h4 := hg.fzlt b (.inr hfr)
        have := (hnew h3).1
        omega
  · cases hs
end Go.Sx

/- All's list as data. -/
namespace Go.Sx.Pr
open Go Go.Sx Go.Sx.Md Go.Proofs
set_option maxRecDepth 100000
def FAllD : List (List Int) → List (Bool × Nat × Nat × (Nat → Nat → Value))
  | [[a, b, c, d, e, f, g, l]] => [(chk a b c d e f g l == 0, 3, sizeN a.toNat b.toNat c.toNat d.toNat e.toNat, fun i j => .int .i64 (spot a.toNat b.toNat d.toNat e.toNat i j))]
  | _ => []
def S20d {Ω : Type} : Spec Ω := conSpecD [.g cfgK] FAllD
theorem g20d : Good1 Try.prog 65 S20d := conGoodD Try.func65 (by kernel_rfl) c20 e20 mix (A := A20) fun L sz n f hl hF => by
  obtain ⟨x, rfl, hx⟩ := lenAs_one hl
  obtain ⟨a, b, c, d, e, ff, g, i, rfl⟩ := eight hx
  simp only [FAllD, firstD] at hF
  cases h : (chk a b c d e ff g i == 0) with
  | false => rw [h] at hF; cases hF
  | true =>
    rw [h] at hF
    simp only [cond_true, Option.some.injEq, Prod.mk.injEq] at hF
    obtain ⟨rfl, rfl, rfl⟩ := hF
    refine ⟨3, _, _, _, v20 _ (by simpa using h), rfl, fun i hi j hj => qAll_spot hi hj⟩
end Go.Sx.Pr

namespace Go.Sx.Pr
open Go Go.Sx Go.Proofs
set_option maxRecDepth 100000
/-- coatcheck/coatcheckref03.Great -/
def C16 : CF := ⟨1, [(2, none)],
 .seq (.reg false [⟨some 1, .box 26 8 (.t 0), none, 0⟩,
   ⟨some 2, .mv (.c (.d (.v (.bool false)))), none, 0⟩])
 (.seq (.reg false [⟨some 3, .ld 8 true (.t 1), none, 0⟩,
   ⟨some 4, .call (.c (.fn (.func 64) [] [])) [.t 3], none, 0⟩,
   ⟨some 5, .eq .int false (.t 4) (.c (.d (.v (.int .i64 0)))), none, 0⟩,
   ⟨some 6, .mv (.t 5), none, 0⟩,
   ⟨some 7, .fa 1 (.t 1), some (6, true), 0⟩,
   ⟨some 8, .ld 1 false (.t 7), some (6, true), 0⟩,
   ⟨some 9, .fa 2 (.t 1), some (6, true), 0⟩,
   ⟨some 10, .ld 1 false (.t 9), some (6, true), 0⟩,
   ⟨some 11, .bin .mul (.t 8) (.t 10), some (6, true), 0⟩,
   ⟨some 12, .bin .gtr (.t 11) (.c (.d (.v (.int .i64 40)))), some (6, true), 0⟩,
   ⟨some 13, .mv (.t 12), some (6, true), 0⟩,
   ⟨some 14, .fa 4 (.t 1), some (13, false), 0⟩,
   ⟨some 15, .ld 1 false (.t 14), some (13, false), 0⟩,
   ⟨some 16, .bin .gtr (.t 15) (.c (.d (.v (.int .i64 16)))), some (13, false), 0⟩,
   ⟨some 17, .pick (.t 13) (.c (.d (.v (.bool true)))) (.t 16), some (6, true), 0⟩,
   ⟨some 18, .pick (.t 6) (.t 17) (.c (.d (.v (.bool false)))), none, 0⟩,
   ⟨some 2, .mv (.t 18), none, 0⟩])
 (.ret))⟩
theorem c16 : coF Try.prog Try.f18 = some C16 := by kernel_rfl
def A16 : Ann := { keep := [0, 1, 2], live := [] }
def E16 {Ω : Type} : Env Ω := econs 64 S19 (enil)
theorem e16 : GoodE Try.prog E16 := GoodE.cons g19 (GoodE.nil)
def S16 {Ω : Type} : Spec Ω := inl E16 A16 C16 false
theorem g16 : Good1 Try.prog 18 S16 := Good1.inl e16 mix Try.func18 (by kernel_rfl) c16 A16 false
def K18_1 : CC := .seq (.block 0 (.seq (.reg false [⟨some 14, .mv (.t 7), none, 0⟩,
     ⟨some 15, .eq .int true (.t 14) (.c (.d (.v (.int .i64 0)))), none, 0⟩,
     ⟨some 13, .mv (.t 15), none, 0⟩])
   (.cond 13 (.seq (.reg false [⟨some 16, .mv (.t 7), none, 0⟩,
       ⟨some 4, .mv (.c (.d (.v (.pointer none)))), none, 0⟩,
       ⟨some 5, .mv (.t 16), none, 0⟩])
     (.ret))
     (.seq (.reg false [⟨some 18, .mv (.t 1), none, 0⟩,
       ⟨some 19, .len (.t 18), none, 0⟩,
       ⟨some 20, .ld 8 true (.t 6), none, 0⟩,
       ⟨some 21, .call (.c (.fn (.func 86) [] [])) [.t 20], none, 0⟩,
       ⟨some 22, .eq .int true (.t 19) (.t 21), none, 0⟩,
       ⟨some 17, .mv (.t 22), none, 0⟩])
     (.cond 17 (.seq (.reg false [⟨some 4, .mv (.c (.d (.v (.pointer none)))), none, 0⟩,
         ⟨some 5, .mv (.c (.d (.v (.int .i64 3)))), none, 0⟩])
       (.ret))
       (.skip))))))
 (.seq (.reg true [⟨some 23, .ld 8 true (.t 6), none, 0⟩,
   ⟨some 24, .mv (.t 1), none, 0⟩,
   ⟨some 25, .call (.c (.fn (.func 63) [] [])) [.t 24], none, 2⟩,
   ⟨some 26, .bld [.d (.v (.int .i64 0)), .d (.v (.int .i64 0)), .d (.v (.int .i64 0)), .d (.v (.int .i64 0)), .d (.v (.int .i64 0)), .d (.v (.int .i64 0)), .d (.v (.int .i64 0)), .d (.v (.int .u64 0)), .d (.v (.int .i64 0)), .d (.v (.int .i64 0)), .d (.v (.int .u64 0)), .d (.v (.int .u64 0)), .d (.v (.int .u64 0)), .d (.v (.slice none 0 0))] [(0, 8, .t 23), (13, 1, .t 25)], none, 7⟩,
   ⟨some 27, .box 79 14 (.t 26), none, 15⟩,
   ⟨some 4, .mv (.t 27), none, 31⟩,
   ⟨some 5, .mv (.c (.d (.v (.int .i64 0)))), none, 63⟩])
 (.ret))
def K18_2 : CC := .reg false [⟨some 9, .ld 8 true (.t 2), none, 0⟩,
   ⟨some 10, .call (.c (.fn (.func 85) [] [])) [.t 9], none, 0⟩,
   ⟨some 8, .mv (.t 10), none, 0⟩,
   ⟨some 11, .ext 0 (.t 8), none, 0⟩,
   ⟨some 12, .ext 1 (.t 8), none, 0⟩,
   ⟨some 6, .newc 75 [.d (.v (.int .i64 0)), .d (.v (.int .i64 0)), .d (.v (.int .i64 0)), .d (.v (.int .i64 0)), .d (.v (.int .i64 0)), .d (.v (.int .i64 0)), .d (.v (.int .i64 0)), .d (.v (.int .u64 0))], none, 0⟩,
   ⟨none, .st 8 (.t 6) (.t 11), none, 0⟩,
   ⟨some 7, .mv (.t 12), none, 0⟩]
def K18_3 : CC := .reg false [⟨some 2, .box 26 8 (.t 0), none, 0⟩,
   ⟨some 4, .mv (.c (.d (.v (.pointer none)))), none, 0⟩,
   ⟨some 5, .mv (.c (.d (.v (.int .i64 0)))), none, 0⟩]
/-- coatcheck/memory.From -/
def C18 : CF := ⟨2, [(4, none), (5, none)],
 .seq K18_3 (.seq K18_2 K18_1)⟩
theorem c18 : coF Try.prog Try.f49 = some C18 := by kernel_rfl
def A18 : Ann := { keep := [0, 1, 2, 4, 5, 6, 7, 13, 17], live := [] }
def E18 {Ω : Type} : Env Ω := econs 63 S65 (econs 85 S63 (econs 86 S64 (enil)))
theorem e18 : GoodE Try.prog E18 := GoodE.cons g65 (GoodE.cons g63 (GoodE.cons g64 (GoodE.nil)))
def S18 {Ω : Type} : Spec Ω := inl E18 A18 C18 false
theorem g18 : Good1 Try.prog 49 S18 := Good1.inl e18 mix Try.func49 (by kernel_rfl) c18 A18 false
/-- coatcheck/memory.New -/
def C34 : CF := ⟨1, [(2, none), (3, none)],
 .seq (.reg false [⟨some 1, .box 26 8 (.t 0), none, 0⟩,
   ⟨some 2, .mv (.c (.d (.v (.pointer none)))), none, 0⟩,
   ⟨some 3, .mv (.c (.d (.v (.int .i64 0)))), none, 0⟩])
 (.seq (.reg true [⟨some 4, .ld 8 true (.t 1), none, 0⟩,
   ⟨some 5, .ld 8 true (.t 1), none, 0⟩,
   ⟨some 6, .call (.c (.fn (.func 50) [] [])) [.t 5], none, 2⟩,
   ⟨some 7, .call (.c (.fn (.func 49) [] [])) [.t 4, .t 6], none, 7⟩,
   ⟨some 8, .ext 0 (.t 7), none, 15⟩,
   ⟨some 9, .ext 1 (.t 7), none, 15⟩,
   ⟨some 2, .mv (.t 8), none, 63⟩,
   ⟨some 3, .mv (.t 9), none, 127⟩])
 (.ret))⟩
theorem c34 : coF Try.prog Try.f12 = some C34 := by kernel_rfl
def A34 : Ann := { keep := [0, 1, 2, 3], live := [] }
def E34 {Ω : Type} : Env Ω := econs 49 S18 (econs 50 S68 (enil))
theorem e34 : GoodE Try.prog E34 := GoodE.cons g18 (GoodE.cons g68 (GoodE.nil))
def S34 {Ω : Type} : Spec Ω := inl E34 A34 C34 false
theorem g34 : Good1 Try.prog 12 S34 := Good1.inl e34 mix Try.func12 (by kernel_rfl) c34 A34 false
def K44_1 : CC := .seq (.reg true [⟨some 22, .mv (.t 7), none, 0⟩,
   ⟨some 23, .ld 8 true (.t 2), none, 0⟩,
   ⟨some 24, .mv (.t 1), none, 0⟩,
   ⟨some 25, .call (.c (.fn (.func 69) [] [])) [.t 24], none, 4⟩,
   ⟨some 26, .bld [.d (.v (.int .i64 0)), .d (.v (.int .i64 0)), .d (.v (.int .i64 0)), .d (.v (.int .i64 0)), .d (.v (.int .i64 0)), .d (.v (.int .i64 0)), .d (.v (.int .i64 0)), .d (.v (.int .u64 0)), .d (.v (.slice none 0 0)), .d (.v (.int .i64 0)), .d (.v (.int .i64 0)), .d (.v (.int .u64 0)), .d (.v (.int .u64 0)), .d (.v (.int .u64 0))] [(0, 8, .t 23), (8, 1, .t 25)], none, 14⟩,
   ⟨some 27, .box 103 14 (.t 26), none, 30⟩,
   ⟨some 28, .mv (.t 8), none, 0⟩,
   ⟨some 29, .eq .int false (.t 28) (.c (.d (.v (.int .i64 0)))), none, 64⟩,
   ⟨some 30, .mv (.t 29), none, 204⟩,
   ⟨some 31, .mv (.t 7), some (30, true), 460⟩,
   ⟨some 32, .eq .ptr true (.t 31) (.c (.d (.v (.pointer none)))), some (30, true), 972⟩,
   ⟨some 33, .pick (.t 30) (.t 32) (.c (.d (.v (.bool false)))), none, 1996⟩,
   ⟨some 34, .mv (.t 33), none, 4044⟩,
   ⟨some 35, .mv (.t 1), some (34, true), 8140⟩,
   ⟨some 36, .len (.t 35), some (34, true), 16332⟩,
   ⟨some 37, .ld 8 true (.t 2), some (34, true), 8140⟩,
   ⟨some 38, .call (.c (.fn (.func 65) [] [])) [.t 37], some (34, true), 40908⟩,
   ⟨some 39, .len (.t 38), some (34, true), 106444⟩,
   ⟨some 40, .eq .int false (.t 36) (.t 39), some (34, true), 262092⟩,
   ⟨some 41, .pick (.t 34) (.t 40) (.c (.d (.v (.bool false)))), none, 524236⟩,
   ⟨some 4, .mv (.t 22), none, 106445⟩,
   ⟨some 5, .mv (.t 27), none, 1155071⟩,
   ⟨some 6, .mv (.t 41), none, 4194303⟩])
 (.ret)
def K44_2 : CC := .reg false [⟨some 17, .ld 8 true (.t 2), none, 0⟩,
   ⟨some 18, .mv (.t 1), none, 0⟩,
   ⟨some 19, .call (.c (.fn (.func 49) [] [])) [.t 17, .t 18], none, 0⟩,
   ⟨some 16, .mv (.t 19), none, 0⟩,
   ⟨some 20, .ext 0 (.t 16), none, 0⟩,
   ⟨some 21, .ext 1 (.t 16), none, 0⟩,
   ⟨some 7, .mv (.t 20), none, 0⟩,
   ⟨some 8, .mv (.t 21), none, 0⟩]
def K44_3 : CC := .seq (.reg false [⟨some 9, .ld 8 true (.t 2), none, 0⟩,
   ⟨some 10, .call (.c (.fn (.func 18) [] [])) [.t 9], none, 0⟩,
   ⟨some 11, .mv (.t 10), none, 0⟩,
   ⟨some 12, .mv (.t 1), some (11, false), 0⟩,
   ⟨some 13, .len (.t 12), some (11, false), 0⟩,
   ⟨some 14, .bin .gtr (.t 13) (.c (.d (.v (.int .i64 400)))), some (11, false), 0⟩,
   ⟨some 15, .pick (.t 11) (.c (.d (.v (.bool true)))) (.t 14), none, 0⟩])
 (.cond 15 (.seq (.reg false [⟨some 4, .mv (.c (.d (.v (.pointer none)))), none, 0⟩,
     ⟨some 5, .mv (.c (.d (.v (.pointer none)))), none, 0⟩,
     ⟨some 6, .mv (.c (.d (.v (.bool false)))), none, 0⟩])
   (.ret))
   (.skip))
def K44_4 : CC := .reg false [⟨some 2, .box 26 8 (.t 0), none, 0⟩,
   ⟨some 4, .mv (.c (.d (.v (.pointer none)))), none, 0⟩,
   ⟨some 5, .mv (.c (.d (.v (.pointer none)))), none, 0⟩,
   ⟨some 6, .mv (.c (.d (.v (.bool false)))), none, 0⟩]
/-- coatcheck/coatchecklaw06.Both -/
def C44 : CF := ⟨2, [(4, none), (5, none), (6, none)],
 .seq K44_4 (.seq K44_3 (.seq K44_2 K44_1))⟩
theorem c44 : coF Try.prog Try.f27 = some C44 := by kernel_rfl
def A44 : Ann := { keep := [0, 1, 2, 4, 5, 6, 7, 8, 15], live := [], pu := [65] }
def E44 {Ω : Type} : Env Ω := econs 18 S16 (econs 49 S18 (econs 69 S17 (econs 65 S20d (enil))))
theorem e44 : GoodE Try.prog E44 := GoodE.cons g16 (GoodE.cons g18 (GoodE.cons g17 (GoodE.cons g20d (GoodE.nil))))
end Go.Sx.Pr

/- Memory objects with their row's loc. -/
namespace Go.Sx.Pr
open Go Go.Sx Go.Sx.Md
def memC (c : Cf) (s : Ac) (o : Nat) : List SV := [I c.a, I c.b, I c.c, I c.d, I c.e, I c.f, I c.g, U c.l, I s.k, I s.a, U s.x, U s.y, U s.o, .own o]
def memD (c : Cf) (s : Ac) (o : Nat) : List SV := [I c.a, I c.b, I c.c, I c.d, I c.e, I c.f, I c.g, U c.l, .own o, I s.k, I s.a, U s.x, U s.y, U s.o]
end Go.Sx.Pr

/- The steps laws: what all of them need. -/
namespace Go.Sx.Pr
open Go Go.Sx Go.Sx.Md Go.Proofs
set_option maxRecDepth 100000

/-- True, with some heap. -/
def Tru (o : Option (SV × SH)) : Prop := ∃ H, o = some (B true, H)
theorem Tru.br {b : Bool} {x y : Option (SV × SH)} (h1 : b = true → Tru x) (h2 : b = false → Tru y) : Tru (br b x y) := by
  cases b with
  | true => exact h1 rfl
  | false => exact h2 rfl
theorem tru_ret {H : SH} : Tru (KS (B true) H) := ⟨H, rfl⟩

def szC (c : Cf) : Int := szZ c.a c.b c.c c.d c.e c.f c.g c.l

/-- What a step leaves well formed. -/
def Pres (m : Mm) (x : Wk) (r : SR) : Prop := okM r.m = true ∧ okW r.x = true ∧ lenW r.x = lenW x ∧ r.m.ws.length = m.ws.length ∧ r.m.c = m.c
theorem Pres.cond {m : Mm} {x : Wk} {a b : SR} {t : Bool} (ha : Pres m x a) (hb : Pres m x b) : Pres m x (bif t then a else b) := by
  cases t with
  | true => exact ha
  | false => exact hb
theorem len_mSet {m : Mm} {g : Bool} {a x : Int} : (mSet m g a x).length = m.ws.length := by
  unfold mSet
  cases g with
  | true => rw [cond_true, List.length_set]
  | false => rfl
section
variable {m : Mm} {x : Wk} (hm : okM m = true) (hx : okW x = true)
 include hm hx
end
end Go.Sx.Pr

/- Helpers: results with some heap, sizes, addresses. Plain Lean. -/
namespace Go.Sx.Pr
open Go Go.Sx Go.Sx.Md Go.Proofs
set_option maxRecDepth 100000

/-- A run's result, with some heap. -/
def GivesV (o : Option (SV × SH)) (r : SV) : Prop := ∃ H, o = some (r, H)
theorem givesV {r : SV} {H : SH} : GivesV (KS r H) r := ⟨H, rfl⟩
theorem GivesV.br {b : Bool} {x y : Option (SV × SH)} {r : SV} (h1 : b = true → GivesV x r) (h2 : b = false → GivesV y r) : GivesV (br b x y) r := by
  cases b with
  | true => exact h1 rfl
  | false => exact h2 rfl
theorem bang_t {x y : Int} (h : ¬ x = y) : (!x == y) = true := by simp [h]
theorem bang_f {x y : Int} (h : x = y) : (!x == y) = false := by simp [h]

theorem szC_eq {c : Cf} (h : chkC c = 0) : szC c = ((sizeN c.a.toNat c.b.toNat c.c.toNat c.d.toNat c.e.toNat : Nat) : Int) := by
  have h' : chk c.a c.b c.c c.d c.e c.f c.g c.l = 0 := h
  simp [szC, szZ, h']
theorem u64B_at {ws : List Int} (h : u64B ws = true) {i : Nat} (hi : i < ws.length) : 0 ≤ ws.getD i 0 ∧ ws.getD i 0 ≤ 18446744073709551615 := by
  rw [List.getD_eq_getElem?_getD, List.getElem?_eq_getElem hi]
  have := List.all_eq_true.1 h _ (List.getElem_mem hi)
  simpa using this
theorem u64B_all {ws : List Int} (h : u64B ws = true) (i : Nat) : uB (ws.getD i 0) = true := by
  rw [uB_iff]
  by_cases hi : i < ws.length
  · exact u64B_at h hi
  · rw [List.getD_eq_getElem?_getD, List.getElem?_eq_none (by omega)]; simp
theorem inB_of' {i : Int} {n : Nat} (h0 : 0 ≤ i) (h1 : i < n) : inB i n = true := by simp only [inB, Bool.and_eq_true, decide_eq_true_eq]; exact ⟨h0, h1⟩
end Go.Sx.Pr

/- Contracts with several outcomes, whose results may say less than the run's. -/
namespace Go.Sx
theorem rep_top3 {b : Bool} {x y : SV} : ∀ cx w u, SRep cx w (.tup [x, y, .d (.v (.bool b))]) u → SRep cx w (.tup [.top, .top, .d (.v (.bool b))]) u := fun cx w u h => by
  simp only [SRep] at h ⊢
  obtain ⟨c', rfl, h⟩ := h
  match c', h with
  | [a, b', c], h =>
    simp only [SRepL, SRep] at h ⊢
    exact ⟨_, rfl, trivial, trivial, h.2.2⟩
  | [], h => simp [SRepL] at h
  | [_], h => simp [SRepL] at h
  | [_, _], h => simp [SRepL] at h
  | _ :: _ :: _ :: _ :: _, h => simp [SRepL] at h
theorem conGoodV {P : Program} {g : Nat} {fn : Func} (hf : P.funcs[g]? = some fn) (hname : (fn.name == "runtime.NumGoroutine") = false) {C : CF} (hC : coF P fn = some C) {A : Ann} {e : {Ω : Type} → Env Ω} (he : GoodE P e) (hmix : P.follows .mixedOrders = true)
    {ts : List AT} {F : List (List Int) → List (Bool × SV × SH)}
    (hrun : ∀ l r hr, lenAs ts l → firstAlt (F l) = some (r, hr) → Flat r ∧ FlatH hr ∧ ∃ r0 hr0 H, (∀ cx w u, SRep cx w r0 u → SRep cx w r u) ∧ RowEq hr0 hr ∧ trim 0 r [] H = hr0 ∧ sxFn (e (Ω := SV × SH)) A C (encAs ts l) [] (fun r h => some (r, h)) = some (r0, H)) :
    Good1 P g (fun {Ω} => conSpecL ts F (Ω := Ω)) := by
  have hbody : ∃ c, fn.body = some c := by
    unfold coF at hC
    split at hC
    · rename_i c hb; exact ⟨c, hb⟩
    · cases hC
  obtain ⟨c, hb⟩ := hbody
  have henter : ∀ (args : Array Value) (w : World), (callFunc g args).run P w = .ok (.enter g args) w := fun args w => by
    have h1 : fn.name ≠ "runtime.NumGoroutine" := by simpa using hname
    simp [callFunc, hf, h1, hb]
  refine ⟨fun Ω => ⟨henter, fun args h k out hs => ?_⟩, fun Ω Ω' => conL_par⟩
  unfold conSpecL at hs
  split at hs
  · rename_i l hl
    obtain ⟨r, hr, hF, hk⟩ := alts_first hs
    obtain ⟨f1, f2, r0, hr0, H, hle, heq, htr, hrun⟩ := hrun l r hr (lendAs_len hl) hF
    refine ⟨_, [], [], _, hk, ⟨by simp, fun l hl _ => by rw [hget_app, if_pos hl]⟩, fun cx w vals hg ha => ?_⟩
    refine (fn_calls (he.ok _) hmix hf hC hrun (cxA w) w vals (gamL w _) (lendAs_ok hg hl ha)).mono fun e w' ⟨v, cxq, e1, grq, hrq, hGq⟩ => ?_
    obtain ⟨cxs, hG, hr', hgrow⟩ := trim_sound (n0 := 0) (m := []) hGq (hle _ _ _ hrq)
    rw [htr] at hG
    have gr := hgrow (Nat.le_refl _) grq
    obtain ⟨k1, k2⟩ := join_flat hg gr (hG.rowEq heq) f2
    have nm : (fun l => nmem l []) = fun _ => false := funext fun l => by simp [nmem]
    rw [nm]
    exact ⟨v, _, e1, k2, by rw [← hg.n]; exact SRep.flat _ _ f1 hr', k1⟩
  · cases hs
end Go.Sx

/- The contract of Both: a memory and the document's, of the same words. -/
namespace Go.Sx.Pr
open Go Go.Sx Go.Sx.Md Go.Proofs
set_option maxRecDepth 100000

theorem n44 {Ω : Type} (it : Itr Ω) (K : SV → SH → Option Ω) (c : Cf) (ws : List Int) :
    sxFnI it E44 A44 C44 [.agg (encC c), .d (.ints .u64 ws)] [] K =
    br (chkC c == 0) (br (decide (w64' (Cf.b c * Cf.c c) > 40)) (K (.tup [.d (DV.v (Value.pointer none)), .d (DV.v (Value.pointer none)), B false]) [.cells 26 (encC c)]) (br (decide (Cf.e c > 16)) (K (.tup [.d (DV.v (Value.pointer none)), .d (DV.v (Value.pointer none)), B false]) [.cells 26 (encC c)]) (br (decide ((↑ (List.length ws) : Int) > 400)) (K (.tup [.d (DV.v (Value.pointer none)), .d (DV.v (Value.pointer none)), B false]) [.cells 26 (encC c)]) (br (!chkC c == 0) (br (!chkC c == 0) (br (fits (0 + List.length ws) 8) (br (chkC c == 0) (K (.tup [.d (DV.v (Value.pointer none)), .ptr 3 0, B false]) [.cells 26 (encC c), .dead, .rowi 24 .u64 ([] ++ ws), .cells 103 (memD c ac0 2)]) (K (.tup [.d (DV.v (Value.pointer none)), .ptr 3 0, B false]) [.cells 26 (encC c), .dead, .rowi 24 .u64 ([] ++ ws), .cells 103 (memD c ac0 2)])) none) (br (! (↑ (List.length ws) : Int) == 0) (br (fits (0 + List.length ws) 8) (K (.tup [.d (DV.v (Value.pointer none)), .ptr 3 0, B false]) [.cells 26 (encC c), .dead, .rowi 24 .u64 ([] ++ ws), .cells 103 (memD c ac0 2)]) none) (br (fits (List.length ws) 8) (br (fits (0 + List.length ws) 8) (br (chkC c == 0) (K (.tup [.ptr 4 0, .ptr 7 0, B ((↑ (List.length ws) : Int) == (↑ (sizeN (Int.toNat (Cf.a c)) (Int.toNat (Cf.b c)) (Int.toNat (Cf.c c)) (Int.toNat (Cf.d c)) (Int.toNat (Cf.e c))) : Int))]) [.cells 26 (encC c), .dead, .dead, .rowi 24 .u64 ws, .cells 79 [I 0, I 0, I 0, I 0, I 0, I 0, I 0, U 0, I 0, I 0, U 0, U 0, U 0, .own 3], .dead, .rowi 24 .u64 ([] ++ ws), .cells 103 (memD c ac0 6)]) none) none) none))) (br (! (↑ (List.length ws) : Int) == szC c) (br (fits (0 + List.length ws) 8) (K (.tup [.d (DV.v (Value.pointer none)), .ptr 3 0, B false]) [.cells 26 (encC c), .dead, .rowi 24 .u64 ([] ++ ws), .cells 103 (memD c ac0 2)]) none) (br (fits (List.length ws) 8) (br (fits (0 + List.length ws) 8) (br (chkC c == 0) (K (.tup [.ptr 4 0, .ptr 7 0, B ((↑ (List.length ws) : Int) == (↑ (sizeN (Int.toNat (Cf.a c)) (Int.toNat (Cf.b c)) (Int.toNat (Cf.c c)) (Int.toNat (Cf.d c)) (Int.toNat (Cf.e c))) : Int))]) [.cells 26 (encC c), .dead, .dead, .rowi 24 .u64 ws, .cells 79 (memC c ac0 3), .dead, .rowi 24 .u64 ([] ++ ws), .cells 103 (memD c ac0 6)]) none) none) none)))))) (br (decide ((↑ (List.length ws) : Int) > 400)) (K (.tup [.d (DV.v (Value.pointer none)), .d (DV.v (Value.pointer none)), B false]) [.cells 26 (encC c)]) (br (!chkC c == 0) (br (!chkC c == 0) (br (fits (0 + List.length ws) 8) (br (chkC c == 0) (K (.tup [.d (DV.v (Value.pointer none)), .ptr 3 0, B false]) [.cells 26 (encC c), .dead, .rowi 24 .u64 ([] ++ ws), .cells 103 (memD c ac0 2)]) (K (.tup [.d (DV.v (Value.pointer none)), .ptr 3 0, B false]) [.cells 26 (encC c), .dead, .rowi 24 .u64 ([] ++ ws), .cells 103 (memD c ac0 2)])) none) (br (! (↑ (List.length ws) : Int) == 0) (br (fits (0 + List.length ws) 8) (K (.tup [.d (DV.v (Value.pointer none)), .ptr 3 0, B false]) [.cells 26 (encC c), .dead, .rowi 24 .u64 ([] ++ ws), .cells 103 (memD c ac0 2)]) none) (br (fits (List.length ws) 8) (br (fits (0 + List.length ws) 8) (br (chkC c == 0) (K (.tup [.ptr 4 0, .ptr 7 0, B ((↑ (List.length ws) : Int) == (↑ (sizeN (Int.toNat (Cf.a c)) (Int.toNat (Cf.b c)) (Int.toNat (Cf.c c)) (Int.toNat (Cf.d c)) (Int.toNat (Cf.e c))) : Int))]) [.cells 26 (encC c), .dead, .dead, .rowi 24 .u64 ws, .cells 79 [I 0, I 0, I 0, I 0, I 0, I 0, I 0, U 0, I 0, I 0, U 0, U 0, U 0, .own 3], .dead, .rowi 24 .u64 ([] ++ ws), .cells 103 (memD c ac0 6)]) none) none) none))) (br (! (↑ (List.length ws) : Int) == szC c) (br (fits (0 + List.length ws) 8) (K (.tup [.d (DV.v (Value.pointer none)), .ptr 3 0, B false]) [.cells 26 (encC c), .dead, .rowi 24 .u64 ([] ++ ws), .cells 103 (memD c ac0 2)]) none) (br (fits (List.length ws) 8) (br (fits (0 + List.length ws) 8) (br (chkC c == 0) (K (.tup [.ptr 4 0, .ptr 7 0, B ((↑ (List.length ws) : Int) == (↑ (sizeN (Int.toNat (Cf.a c)) (Int.toNat (Cf.b c)) (Int.toNat (Cf.c c)) (Int.toNat (Cf.d c)) (Int.toNat (Cf.e c))) : Int))]) [.cells 26 (encC c), .dead, .dead, .rowi 24 .u64 ws, .cells 79 (memC c ac0 3), .dead, .rowi 24 .u64 ([] ++ ws), .cells 103 (memD c ac0 6)]) none) none) none)))) := by kernel_rfl

/-- Small enough to be looked at, and valid. -/
def bothV (c : Cf) (ws : List Int) : Bool := (chkC c == 0) && (decide (c.b * c.c ≤ 40) && (decide (c.e ≤ 16) && (decide (ws.length ≤ 400) && ((ws.length : Int) == szC c))))
theorem bothV_iff {c : Cf} {ws : List Int} : bothV c ws = true ↔ chkC c = 0 ∧ c.b * c.c ≤ 40 ∧ c.e ≤ 16 ∧ ws.length ≤ 400 ∧ (ws.length : Int) = szC c := by
  simp only [bothV, Bool.and_eq_true, beq_iff_eq, decide_eq_true_eq]
def BAlts (c : Cf) (ws : List Int) : List (Bool × SV × SH) :=
  [(bothV c ws, .tup [.ptr 4 0, .ptr 7 0, B true], [.dead, .dead, .dead, .rowi 24 .u64 ws, .cells 79 (memC c ac0 3), .dead, .rowi 24 .u64 ws, .cells 103 (memD c ac0 6)]), (true, .tup [.top, .top, B false], [])]
def F44 : List (List Int) → List (Bool × SV × SH)
  | [[a, b, c, d, e, f, g, l], ws] => BAlts ⟨a, b, c, d, e, f, g, l⟩ ws
  | _ => []
def S44c {Ω : Type} : Spec Ω := conSpecL [.g cfgK, .s .u64] F44
theorem bad44 {c : Cf} {ws : List Int} (h : ¬ bothV c ws = true) : ∃ x y H, sxFn E44 A44 C44 [.agg (encC c), .d (.ints .u64 ws)] [] KS = some (.tup [x, y, B false], H) := by
  rw [← sxFnI_eq, n44]
  rw [bothV_iff] at h
  by_cases h0 : chkC c = 0
  · obtain ⟨⟨a1, a2⟩, ⟨b1, b2⟩, ⟨c1, c2⟩, _, ⟨e1, e2⟩, _⟩ := chk_zero h0
    have hb : w64' (c.b * c.c) = c.b * c.c := by
      have h1 : c.b * c.c ≤ 8 * c.c := Int.mul_le_mul_of_nonneg_right b2 (by omega)
      have h2 : 0 ≤ c.b * c.c := Int.mul_nonneg (by omega) (by omega)
      exact w64_id (by omega) (by omega)
    rw [h0, show ((0 : Int) == 0) = true from rfl, br_t, hb]
    by_cases h1 : c.b * c.c ≤ 40
    · rw [decide_eq_false (by omega), br_f]
      by_cases h2 : c.e ≤ 16
      · rw [decide_eq_false (by omega), br_f]
        by_cases h3 : ws.length ≤ 400
        · rw [decide_eq_false (by omega), br_f, show (!true) = false from rfl, br_f]
          have h4 : ¬ (ws.length : Int) = szC c := fun q => h ⟨h0, h1, h2, h3, q⟩
          rw [bang_t h4, br_t, fits_of (by omega), br_t]
          exact ⟨_, _, _, rfl⟩
        · rw [decide_eq_true (by omega), br_t]; exact ⟨_, _, _, rfl⟩
      · rw [decide_eq_true (by omega), br_t]; exact ⟨_, _, _, rfl⟩
    · rw [decide_eq_true (by omega), br_t]; exact ⟨_, _, _, rfl⟩
  · rw [show (chkC c == 0) = false by simpa using h0, br_f]
    by_cases h3 : ws.length ≤ 400
    · rw [decide_eq_false (by omega), br_f, show (!false) = true from rfl, br_t, br_t, fits_of (by omega), br_t, br_f]
      exact ⟨_, _, _, rfl⟩
    · rw [decide_eq_true (by omega), br_t]; exact ⟨_, _, _, rfl⟩
theorem good44 {c : Cf} {ws : List Int} (h : bothV c ws = true) : sxFn E44 A44 C44 [.agg (encC c), .d (.ints .u64 ws)] [] KS = some (.tup [.ptr 4 0, .ptr 7 0, B true], [.cells 26 (encC c), .dead, .dead, .rowi 24 .u64 ws, .cells 79 (memC c ac0 3), .dead, .rowi 24 .u64 ws, .cells 103 (memD c ac0 6)]) := by
  rw [← sxFnI_eq, n44]
  obtain ⟨h0, h1, h2, h3, h4⟩ := bothV_iff.1 h
  obtain ⟨⟨a1, a2⟩, ⟨b1, b2⟩, ⟨c1, c2⟩, _, ⟨e1, e2⟩, _⟩ := chk_zero h0
  have hb : w64' (c.b * c.c) = c.b * c.c := by
    have h2 : 0 ≤ c.b * c.c := Int.mul_nonneg (by omega) (by omega)
    exact w64_id (by omega) (by omega)
  rw [h0, show ((0 : Int) == 0) = true from rfl, br_t, hb, decide_eq_false (by omega), br_f, decide_eq_false (by omega), br_f, decide_eq_false (by omega), br_f, show (!true) = false from rfl, br_f, bang_f h4, br_f, fits_of (by omega), br_t, fits_of (by omega), br_t, br_t, ← szC_eq h0, beq_iff_eq.2 h4]
  rfl
theorem g44c : Good1 Try.prog 27 S44c := conGoodV Try.func27 (by kernel_rfl) c44 e44 mix (A := A44) fun L r hr hl hF => by
  obtain ⟨q0, l0, rfl, z0, hl1⟩ := lenAs_cons hl
  obtain ⟨a, b, c, d, e, f, g, l, rfl⟩ := eight z0
  obtain ⟨ws, l1, rfl, z1, hl2⟩ := lenAs_cons hl1
  have hz := lenAs_nil hl2
  subst hz
  simp only [F44, BAlts, firstAlt] at hF
  by_cases hb : bothV ⟨a, b, c, d, e, f, g, l⟩ ws = true
  · rw [hb, cond_true] at hF
    simp only [Option.some.injEq, Prod.mk.injEq] at hF
    obtain ⟨rfl, rfl⟩ := hF
    have hv := good44 hb
    refine ⟨⟨trivial, trivial, trivial, trivial⟩, ?_, .tup [.ptr 4 0, .ptr 7 0, B true], [.dead, .dead, .dead, .rowi 24 .u64 ws, .cells 79 (memC ⟨a, b, c, d, e, f, g, l⟩ ac0 3), .dead, .rowi 24 .u64 ws, .cells 103 (memD ⟨a, b, c, d, e, f, g, l⟩ ac0 6)], [.cells 26 (encC ⟨a, b, c, d, e, f, g, l⟩), .dead, .dead, .rowi 24 .u64 ws, .cells 79 (memC ⟨a, b, c, d, e, f, g, l⟩ ac0 3), .dead, .rowi 24 .u64 ws, .cells 103 (memD ⟨a, b, c, d, e, f, g, l⟩ ac0 6)], fun _ _ _ h => h, RowEq.refl _, ?_, hv⟩
    · exact ⟨trivial, trivial, trivial, trivial, ⟨trivial, trivial, trivial, trivial, trivial, trivial, trivial, trivial, trivial, trivial, trivial, trivial, trivial, trivial, trivial⟩, trivial, trivial, ⟨trivial, trivial, trivial, trivial, trivial, trivial, trivial, trivial, trivial, trivial, trivial, trivial, trivial, trivial, trivial⟩, trivial⟩
    · kernel_rfl
  · have hb' : bothV ⟨a, b, c, d, e, f, g, l⟩ ws = false := by simpa using hb
    rw [hb', cond_false, cond_true] at hF
    simp only [Option.some.injEq, Prod.mk.injEq] at hF
    obtain ⟨rfl, rfl⟩ := hF
    obtain ⟨x, y, H, hH⟩ := bad44 hb
    exact ⟨⟨trivial, trivial, trivial, trivial⟩, trivial, _, _, H, rep_top3, RowEq.refl _, trim_none rfl _, hH⟩
end Go.Sx.Pr

namespace Go.Sx.Pr
open Go Go.Sx Go.Proofs
set_option maxRecDepth 100000
/-- coatcheck/pack.Unentry -/
def C1054 : CF := ⟨1, [(2, none), (3, none), (4, none)],
 .seq (.reg false [⟨some 2, .mv (.c (.d (.v (.int .u64 0)))), none, 0⟩,
   ⟨some 3, .mv (.c (.d (.v (.int .i64 0)))), none, 0⟩,
   ⟨some 4, .mv (.c (.d (.v (.int .i64 0)))), none, 0⟩])
 (.seq (.reg false [⟨some 5, .mv (.t 0), none, 0⟩,
   ⟨some 6, .bin .shr (.t 5) (.c (.d (.v (.int .u64 20)))), none, 0⟩,
   ⟨some 7, .mv (.t 0), none, 0⟩,
   ⟨some 8, .bin .shr (.t 7) (.c (.d (.v (.int .u64 4)))), none, 0⟩,
   ⟨some 9, .conv .u16 (.t 8), none, 0⟩,
   ⟨some 10, .conv .i64 (.t 9), none, 0⟩,
   ⟨some 11, .bin .sub (.t 10) (.c (.d (.v (.int .i64 1)))), none, 0⟩,
   ⟨some 12, .mv (.t 0), none, 0⟩,
   ⟨some 13, .conv .u8 (.t 12), none, 0⟩,
   ⟨some 14, .bin .shl (.t 13) (.c (.d (.v (.int .u64 4)))), none, 0⟩,
   ⟨some 15, .bin .shr (.t 14) (.c (.d (.v (.int .u64 4)))), none, 0⟩,
   ⟨some 16, .conv .i64 (.t 15), none, 0⟩,
   ⟨some 2, .mv (.t 6), none, 0⟩,
   ⟨some 3, .mv (.t 11), none, 0⟩,
   ⟨some 4, .mv (.t 16), none, 0⟩])
 (.ret))⟩
theorem c1054 : coF Try.prog Try.f73 = some C1054 := by kernel_rfl
def A1054 : Ann := { keep := [0, 2, 3, 4], live := [] }
def E1054 {Ω : Type} : Env Ω := enil
theorem e1054 : GoodE Try.prog E1054 := GoodE.nil
/-- coatcheck/pack.Ticket -/
def C1070 : CF := ⟨2, [(4, none)],
 .seq (.reg false [⟨some 4, .mv (.c (.d (.v (.int .u64 0)))), none, 0⟩])
 (.seq (.reg false [⟨some 5, .mv (.t 1), none, 0⟩,
   ⟨some 6, .bin .shl (.t 5) (.c (.d (.v (.int .u64 16)))), none, 0⟩,
   ⟨some 7, .mv (.t 0), none, 0⟩,
   ⟨some 8, .bin .add (.t 7) (.c (.d (.v (.int .i64 1)))), none, 0⟩,
   ⟨some 9, .conv .u16 (.t 8), none, 0⟩,
   ⟨some 10, .conv .u64 (.t 9), none, 0⟩,
   ⟨some 11, .bin .or (.t 6) (.t 10), none, 0⟩,
   ⟨some 4, .mv (.t 11), none, 0⟩])
 (.ret))⟩
theorem c1070 : coF Try.prog Try.f75 = some C1070 := by kernel_rfl
def A1070 : Ann := { keep := [0, 1, 4], live := [] }
def E1070 {Ω : Type} : Env Ω := enil
theorem e1070 : GoodE Try.prog E1070 := GoodE.nil
/-- coatcheck/pack.Unticket -/
def C1068 : CF := ⟨1, [(2, none), (3, none)],
 .seq (.reg false [⟨some 2, .mv (.c (.d (.v (.int .i64 0)))), none, 0⟩,
   ⟨some 3, .mv (.c (.d (.v (.int .u64 0)))), none, 0⟩])
 (.seq (.reg false [⟨some 4, .mv (.t 0), none, 0⟩,
   ⟨some 5, .conv .u16 (.t 4), none, 0⟩,
   ⟨some 6, .conv .i64 (.t 5), none, 0⟩,
   ⟨some 7, .bin .sub (.t 6) (.c (.d (.v (.int .i64 1)))), none, 0⟩,
   ⟨some 8, .mv (.t 0), none, 0⟩,
   ⟨some 9, .bin .shr (.t 8) (.c (.d (.v (.int .u64 16)))), none, 0⟩,
   ⟨some 2, .mv (.t 7), none, 0⟩,
   ⟨some 3, .mv (.t 9), none, 0⟩])
 (.ret))⟩
theorem c1068 : coF Try.prog Try.f71 = some C1068 := by kernel_rfl
def A1068 : Ann := { keep := [0, 2, 3], live := [] }
def E1068 {Ω : Type} : Env Ω := enil
theorem e1068 : GoodE Try.prog E1068 := GoodE.nil
/-- coatcheck/coatcheckref01.Unentry -/
def C1036 : CF := ⟨1, [(2, none), (3, none), (4, none)],
 .seq (.reg false [⟨some 2, .mv (.c (.d (.v (.int .u64 0)))), none, 0⟩,
   ⟨some 3, .mv (.c (.d (.v (.int .i64 0)))), none, 0⟩,
   ⟨some 4, .mv (.c (.d (.v (.int .i64 0)))), none, 0⟩])
 (.seq (.reg true [⟨some 5, .mv (.t 0), none, 0⟩,
   ⟨some 6, .call (.c (.fn (.func 67) [] [])) [.c (.d (.v (.int .i64 20)))], none, 0⟩,
   ⟨some 7, .bin .quo (.t 5) (.t 6), none, 3⟩,
   ⟨some 8, .mv (.t 0), none, 0⟩,
   ⟨some 9, .bin .quo (.t 8) (.c (.d (.v (.int .u64 16)))), none, 8⟩,
   ⟨some 10, .call (.c (.fn (.func 66) [] [])) [.t 9, .c (.d (.v (.int .i64 16)))], none, 26⟩,
   ⟨some 11, .conv .i64 (.t 10), none, 58⟩,
   ⟨some 12, .bin .sub (.t 11) (.c (.d (.v (.int .i64 1)))), none, 122⟩,
   ⟨some 13, .mv (.t 0), none, 0⟩,
   ⟨some 14, .bin .rem (.t 13) (.c (.d (.v (.int .u64 16)))), none, 256⟩,
   ⟨some 15, .conv .i64 (.t 14), none, 768⟩,
   ⟨some 2, .mv (.t 7), none, 63⟩,
   ⟨some 3, .mv (.t 12), none, 2303⟩,
   ⟨some 4, .mv (.t 15), none, 8191⟩])
 (.ret))⟩
theorem c1036 : coF Try.prog Try.f38 = some C1036 := by kernel_rfl
def A1036 : Ann := { keep := [0, 2, 3, 4], live := [] }
def E1036 {Ω : Type} : Env Ω := econs 66 S80c (econs 67 S83c (enil))
theorem e1036 : GoodE Try.prog E1036 := GoodE.cons g80c (GoodE.cons g83c (GoodE.nil))
/-- coatcheck/coatcheckref01.Ticket -/
def C1066 : CF := ⟨2, [(4, none)],
 .seq (.reg false [⟨some 4, .mv (.c (.d (.v (.int .u64 0)))), none, 0⟩])
 (.seq (.reg false [⟨some 5, .mv (.t 1), none, 0⟩,
   ⟨some 6, .call (.c (.fn (.func 66) [] [])) [.t 5, .c (.d (.v (.int .i64 48)))], none, 0⟩,
   ⟨some 7, .call (.c (.fn (.func 67) [] [])) [.c (.d (.v (.int .i64 16)))], none, 0⟩,
   ⟨some 8, .bin .mul (.t 6) (.t 7), none, 0⟩,
   ⟨some 9, .mv (.t 0), none, 0⟩,
   ⟨some 10, .conv .u64 (.t 9), none, 0⟩,
   ⟨some 11, .bin .add (.t 10) (.c (.d (.v (.int .u64 1)))), none, 0⟩,
   ⟨some 12, .call (.c (.fn (.func 66) [] [])) [.t 11, .c (.d (.v (.int .i64 16)))], none, 0⟩,
   ⟨some 13, .bin .add (.t 8) (.t 12), none, 0⟩,
   ⟨some 4, .mv (.t 13), none, 0⟩])
 (.ret))⟩
theorem c1066 : coF Try.prog Try.f68 = some C1066 := by kernel_rfl
def A1066 : Ann := { keep := [0, 1, 4], live := [] }
def E1066 {Ω : Type} : Env Ω := econs 66 S80c (econs 67 S83c (enil))
theorem e1066 : GoodE Try.prog E1066 := GoodE.cons g80c (GoodE.cons g83c (GoodE.nil))
/-- coatcheck/coatcheckref01.Unticket -/
def C1035 : CF := ⟨1, [(2, none), (3, none)],
 .seq (.reg false [⟨some 2, .mv (.c (.d (.v (.int .i64 0)))), none, 0⟩,
   ⟨some 3, .mv (.c (.d (.v (.int .u64 0)))), none, 0⟩])
 (.seq (.reg true [⟨some 4, .mv (.t 0), none, 0⟩,
   ⟨some 5, .call (.c (.fn (.func 66) [] [])) [.t 4, .c (.d (.v (.int .i64 16)))], none, 1⟩,
   ⟨some 6, .conv .i64 (.t 5), none, 3⟩,
   ⟨some 7, .bin .sub (.t 6) (.c (.d (.v (.int .i64 1)))), none, 7⟩,
   ⟨some 8, .mv (.t 0), none, 0⟩,
   ⟨some 9, .call (.c (.fn (.func 67) [] [])) [.c (.d (.v (.int .i64 16)))], none, 3⟩,
   ⟨some 10, .bin .quo (.t 8) (.t 9), none, 51⟩,
   ⟨some 2, .mv (.t 7), none, 47⟩,
   ⟨some 3, .mv (.t 10), none, 255⟩])
 (.ret))⟩
theorem c1035 : coF Try.prog Try.f37 = some C1035 := by kernel_rfl
def A1035 : Ann := { keep := [0, 2, 3], live := [] }
def E1035 {Ω : Type} : Env Ω := econs 66 S80c (econs 67 S83c (enil))
theorem e1035 : GoodE Try.prog E1035 := GoodE.cons g80c (GoodE.cons g83c (GoodE.nil))
end Go.Sx.Pr
