/- Pure contracts: functions of data, known by their results as data; nothing of the caller's memory changes. -/
import Derived.Test.YtljmncdlehinnaaT0
import Derived.Test.YtljmncdlehinnaaMp
import Derived.Test.YtljmncdlehinnaaT31
import Derived.KernelRfl
import Derived.Test.YtljmncdlehinnaaRows
import Derived.Test.YtljmncdlehinnaaT0
import Derived.Test.YtljmncdlehinnaaT31
import Derived.Test.YtljmncdlehinnaaT31
import Derived.Test.YtljmncdlehinnaaT31
import Derived.Test.YtljmncdlehinnaaT0
set_option linter.all false
set_option linter.unusedVariables false
set_option linter.unusedSimpArgs false
set_option linter.unnecessarySimpa false
namespace Go.Sx

/-! ### results as data -/
 mutual
/-- Values without locs and without data behind them. -/
def flt0 : SV → Bool
  | .d (.v _) => true
  | .fn _ a b => flt0L a && flt0L b
  | .agg c => flt0L c
  | .tup c => flt0L c
  | _ => false
def flt0L : List SV → Bool
  | [] => true
  | x :: r => flt0 x && flt0L r
end
def dat0 : List (Value × SV) → Option (List SV)
  | [] => some []
  | (_, x) :: r => match dat0 r with
    | some s => bif flt0 x then some (x :: s) else none
    | none => none
section
variable {cx cx' : Cx} {w w' : World}
 mutual
theorem flt0_rep : ∀ (x : SV) (u : Value), flt0 x = true → SRep cx w x u → SRep cx' w' x u
  | .d (.v x), u, _, h => by simp only [SRep, DRep] at h ⊢; exact h
  | .d (.ints _ _), u, e, h | .d (.sl _ _ _), u, e, h => by simp [flt0] at e
  | .ptr _ _, u, e, h | .pe _ _ _, u, e, h | .rp _ _ _, u, e, h | .own _, u, e, h | .cs _ _ _ _ _, u, e, h | .mp _, u, e, h | .md _ _, u, e, h | .top, u, e, h => by simp [flt0] at e
  | .fn g a b, u, e, h => by
      simp only [flt0, Bool.and_eq_true] at e
      simp only [SRep] at h ⊢
      obtain ⟨a', b', e1, h1, h2⟩ := h
      exact ⟨a', b', e1, flt0L_rep a a' e.1 h1, flt0L_rep b b' e.2 h2⟩
  | .agg c, u, e, h => by
      simp only [flt0] at e
      simp only [SRep] at h ⊢
      obtain ⟨c', e1, h1⟩ := h
      exact ⟨c', e1, flt0L_rep c c' e h1⟩
  | .tup c, u, e, h => by
      simp only [flt0] at e
      simp only [SRep] at h ⊢
      obtain ⟨c', e1, h1⟩ := h
      exact ⟨c', e1, flt0L_rep c c' e h1⟩
theorem flt0L_rep : ∀ (c : List SV) (c' : List Value), flt0L c = true → SRepL cx w c c' → SRepL cx' w' c c'
  | [], [], _, _ => by simp only [SRepL]
  | x :: r, v :: vs, e, h => by
      simp only [flt0L, Bool.and_eq_true] at e
      simp only [SRepL] at h ⊢
      exact ⟨flt0_rep x v e.1 h.1, flt0L_rep r vs e.2 h.2⟩
  | [], _ :: _, _, h => by simp [SRepL] at h
  | _ :: _, [], _, h => by simp [SRepL] at h
end
theorem dat0_rep : ∀ {es : List (Value × SV)} {xs : List SV} {l : List (Value × Value)}, dat0 es = some xs → SRepE cx w es l → l = (es.map (·.1)).zip (l.map (·.2)) ∧ SRepL cx' w' xs (l.map (·.2)) ∧ (l.map (·.2)).length = (es.map (·.1)).length
  | [], xs, [], e, _ => by simp only [dat0, Option.some.injEq] at e; subst e; simp [SRepL]
  | [], xs, _ :: _, e, h => by simp [SRepE] at h
  | (q, x) :: r, xs, [], e, h => by simp [SRepE] at h
  | (q, x) :: r, xs, (q', v) :: l, e, h => by
      simp only [dat0] at e
      split at e
      · rename_i s hs
        obtain ⟨hf, e⟩ := cond_some e
        simp only [Option.some.injEq] at e; subst e
        simp only [SRepE] at h
        obtain ⟨rfl, h1, h2⟩ := h
        obtain ⟨k1, k2, k3⟩ := dat0_rep hs h2
        refine ⟨?_, ?_, by simpa using k3⟩
        · simp only [List.map_cons, List.zip_cons_cons, List.cons.injEq, true_and]; exact k1
        · simp only [List.map_cons, SRepL]; exact ⟨flt0_rep x v hf h1, k2⟩
      · cases e
end
 mutual
/-- A result as data: rows that the callee made become data; a: data of the arguments may stand in it. -/
def dat (a : Bool) (h : SH) : SV → Option SV
  | .d (.v x) => some (.d (.v x))
  | .d x => bif a then some (.d x) else none
  | .own l => match hget h l with
    | .rowi _ k xs => some (.d (.ints k xs))
    | .row _ sz n f => bif a then some (.d (.sl sz n f)) else none
    | _ => none
  | .fn g x y => match datL a h x, datL a h y with
    | some x', some y' => some (.fn g x' y')
    | _, _ => none
  | .agg c => match datL a h c with | some c' => some (.agg c') | none => none
  | .tup c => match datL a h c with | some c' => some (.tup c') | none => none
  | .top => some .top
  | .mp l => match hget h l with
    | .maps es => match dat0 es with | some xs => some (.md (es.map (·.1)) xs) | none => none
    | _ => none
  | _ => none
def datL (a : Bool) (h : SH) : List SV → Option (List SV)
  | [] => some []
  | x :: r => match dat a h x, datL a h r with
    | some y, some s => some (y :: s)
    | _, _ => none
end

section
variable {a : Bool} {cxq cx' : Cx} {H : SH} {w : World}
 mutual
theorem dat_rep (hG : Gam cxq H w) (hA : a = true → ∀ b, cxq.fz b → cx'.fz b) (hO : ∀ l, liv cxq H l → cx'.fz (cxq.th l)) : ∀ (x y : SV) (u : Value), dat a H x = some y → SRep cxq w x u → SRep cx' w y u
  | .d (.v x), y, u, e, h => by simp only [dat, Option.some.injEq] at e; subst e; simp only [SRep, DRep] at h ⊢; exact h
  | .d (.ints k l), y, u, e, h => by
      simp only [dat] at e
      cases ha : a with
      | false => rw [ha] at e; cases e
      | true =>
        rw [ha] at e; simp only [cond_true, Option.some.injEq] at e; subst e
        simp only [SRep] at h ⊢
        exact DRep.mono (hA ha) (fun _ _ => rfl) _ _ h
  | .d (.sl sz n f), y, u, e, h => by
      simp only [dat] at e
      cases ha : a with
      | false => rw [ha] at e; cases e
      | true =>
        rw [ha] at e; simp only [cond_true, Option.some.injEq] at e; subst e
        simp only [SRep] at h ⊢
        exact DRep.mono (hA ha) (fun _ _ => rfl) _ _ h
  | .own l, y, u, e, h => by
      simp only [dat] at e
      have hobj := hG.obj l
      simp only [SRep] at h
      split at e
      · rename_i t k xs hl
        simp only [Option.some.injEq] at e; subst e
        rw [hl] at hobj
        obtain ⟨hln, hrs, hcp, hz, hh⟩ := hobj
        simp only [SRep, DRep]
        refine ⟨_, _, by rw [← hln]; exact h.2, hcp, fun hn => ?_⟩
        have hpos : 0 < xs.length := List.length_pos_iff.2 hn
        cases hnl : cxq.nl l with
        | true => have := hz hnl; omega
        | false =>
          obtain ⟨t', c', hb, hs, hc⟩ := hh hnl
          refine ⟨cxq.th l, 0, by simp, hO l (by simp [liv, hl, hnl]), fun i hi => ?_⟩
          simp only [World.cell?, ad, hb, Nat.zero_add]
          exact hc i hi
      · rename_i t sz n f hl
        cases ha : a with
        | false => rw [ha] at e; cases e
        | true =>
          rw [ha] at e; simp only [cond_true, Option.some.injEq] at e; subst e
          rw [hl] at hobj
          obtain ⟨hln, hrs, hcp, hz, hh⟩ := hobj
          simp only [SRep, DRep]
          refine ⟨_, _, by rw [← hln]; exact h.2, hcp, fun hn => ?_⟩
          cases hnl : cxq.nl l with
          | true => have := hz hnl; omega
          | false =>
            obtain ⟨t', c', hb, hs, hc⟩ := hh hnl
            refine ⟨cxq.th l, 0, by simp, hO l (by simp [liv, hl, hnl]), fun i hi j hj => ?_⟩
            obtain ⟨x, hx, hd⟩ := hc i hi j hj
            exact ⟨x, by simp [World.cell?, ad, hb, hx], DRep.mono (hA ha) (fun _ _ => rfl) _ _ hd⟩
      · cases e
  | .fn g p q, y, u, e, h => by
      simp only [dat] at e
      split at e
      · rename_i p' q' hp hq
        simp only [Option.some.injEq] at e; subst e
        simp only [SRep] at h ⊢
        obtain ⟨a', b', e1, h1, h2⟩ := h
        exact ⟨a', b', e1, datL_rep hG hA hO p p' a' hp h1, datL_rep hG hA hO q q' b' hq h2⟩
      · cases e
  | .agg c, y, u, e, h => by
      simp only [dat] at e
      split at e
      · rename_i c' hc
        simp only [Option.some.injEq] at e; subst e
        simp only [SRep] at h ⊢
        obtain ⟨v, e1, h1⟩ := h
        exact ⟨v, e1, datL_rep hG hA hO c c' v hc h1⟩
      · cases e
  | .tup c, y, u, e, h => by
      simp only [dat] at e
      split at e
      · rename_i c' hc
        simp only [Option.some.injEq] at e; subst e
        simp only [SRep] at h ⊢
        obtain ⟨v, e1, h1⟩ := h
        exact ⟨v, e1, datL_rep hG hA hO c c' v hc h1⟩
      · cases e
  | .top, y, u, e, h => by simp only [dat, Option.some.injEq] at e; subst e; simp only [SRep]
  | .ptr _ _, y, u, e, h | .pe _ _ _, y, u, e, h | .rp _ _ _, y, u, e, h | .cs _ _ _ _ _, y, u, e, h | .md _ _, y, u, e, h => by simp [dat] at e
  | .mp l, y, u, e, h => by
      simp only [dat] at e
      have hobj := hG.obj l
      simp only [SRep] at h
      split at e
      · rename_i es hl
        split at e
        · rename_i xs hx
          simp only [Option.some.injEq] at e; subst e
          rw [hl] at hobj
          obtain ⟨el, c, hb, hent⟩ := hobj
          obtain ⟨k1, k2, k3⟩ := dat0_rep (cx' := cx') (w' := w) hx hent
          simp only [SRep]
          exact ⟨_, el, c, _, h.2, hO l (by simp [liv, hl]), hb, k1, k3, k2⟩
        · cases e
      · cases e
theorem datL_rep (hG : Gam cxq H w) (hA : a = true → ∀ b, cxq.fz b → cx'.fz b) (hO : ∀ l, liv cxq H l → cx'.fz (cxq.th l)) : ∀ (x y : List SV) (u : List Value), datL a H x = some y → SRepL cxq w x u → SRepL cx' w y u
  | [], y, u, e, h => by simp only [datL, Option.some.injEq] at e; subst e; cases u with
    | nil => simp only [SRepL]
    | cons => simp [SRepL] at h
  | x :: r, y, u, e, h => by
      simp only [datL] at e
      split at e
      · rename_i y' s' h1 h2
        simp only [Option.some.injEq] at e; subst e
        cases u with
        | nil => simp [SRepL] at h
        | cons v vs =>
          simp only [SRepL] at h ⊢
          exact ⟨dat_rep hG hA hO x y' v h1 h.1, datL_rep hG hA hO r s' vs h2 h.2⟩
      · cases e
end
end

/-- What is new is data from now on. -/
def cxN (cx : Cx) (w w' : World) : Cx := { cx with fz := fun b => cx.fz b ∨ (w.heap.size ≤ b ∧ b < w'.heap.size) }

theorem fresh_data {cx : Cx} {h : SH} {w w' : World} (hg : Gam cx h w) (hsame : ∀ b, b < w.heap.size → w'.heap[b]? = w.heap[b]?) (hsz : w.heap.size ≤ w'.heap.size) (hio : Io w w') : Grow0 cx w (cxN cx w w') w' ∧ Gam (cxN cx w w') h w' := by
  have gr2 : Grow0 cx w (cxN cx w w') w' := ⟨fun _ hb => .inl hb, fun b hb => hsame b (hg.fzlt b hb), hsz, fun l hl _ => ⟨hl, rfl, rfl, rfl, rfl, rfl⟩, rfl, hio⟩
  have hlv : ∀ l, liv (cxN cx w w') h l → liv cx h l := fun l hl => hl
  refine ⟨gr2, ⟨hg.n, fun m => ?_, fun m hm => Nat.lt_of_lt_of_le (hg.lt m (hlv m hm)) hsz, fun m hm hhd => ?_, fun a b ha hb => hg.inj a b (hlv a ha) (hlv b hb), fun b hb => ?_, fun b hb hfr => ?_⟩⟩
  · rcases Nat.lt_or_ge m h.length with hm | hm
    · exact ORep.keep (h := h) gr2 (hg.n ▸ hm) _ rfl (fun hv => hsame _ (hg.lt m hv)) (hg.obj m)
    · rw [hget_ge hm]; trivial
  · have h1 := hg.lt m (hlv m hm)
    rcases hhd with (h2 | ⟨h2, h3⟩) | h2
    · exact hg.own m (hlv m hm) (.inl h2)
    · simp only [cxN] at h2; omega
    · exact hg.own m (hlv m hm) (.inr h2)
  · rcases hb with (h2 | ⟨h2, h3⟩) | h2
    · exact Nat.lt_of_lt_of_le (hg.fzlt b (.inl h2)) hsz
    · exact h3
    · exact Nat.lt_of_lt_of_le (hg.fzlt b (.inr h2)) hsz
  · rcases hb with h2 | ⟨h2, h3⟩
    · exact hg.dj b h2 hfr
    · have := hg.fzlt b (.inr hfr); omega

/-! ### arguments: data -/
inductive PT where
  | any
  | g (cts : List CT)
  | s (k : IntKind)

 mutual
def nlc : SV → Bool
  | .d _ | .rp _ _ _ | .top => true
  | .fn _ a b => nlcL a && nlcL b
  | .agg c | .tup c | .md _ c => nlcL c
  | _ => false
def nlcL : List SV → Bool
  | [] => true
  | x :: r => nlc x && nlcL r
end

def nrmP : PT → SV → Option SV
  | .any, x => bif nlc x then some x else none
  | .g cs, .agg c => match nrmC cs c with | some c' => some (.agg c') | none => none
  | .s k, .d (.ints k' l) => bif kEq k k' then some (.d (.ints k l)) else none
  | .s k, .d (.v (.slice none 0 0)) => some (.d (.ints k []))
  | .s k, .d (.v (.slice (some _) 0 _)) => some (.d (.ints k []))
  | _, _ => none
def nrmPs : List PT → List SV → Option (List SV)
  | [], [] => some []
  | t :: ts, x :: r => match nrmP t x, nrmPs ts r with
    | some y, some s => some (y :: s)
    | _, _ => none
  | _, _ => none

section
variable {cx cx' : Cx} {w : World}
 mutual
theorem nlc_ok (hf : cx'.fz = cx.fz) : ∀ (x : SV) (u : Value), nlc x = true → SRep cx w x u → SRep cx' w x u
  | .d x, u, _, h => by simp only [SRep] at h ⊢; rw [hf]; exact h
  | .rp sz f o, u, _, h => by simp only [SRep] at h ⊢; rw [hf]; exact h
  | .top, u, _, _ => by simp only [SRep]
  | .fn g a b, u, hn, h => by
      simp only [nlc, Bool.and_eq_true] at hn
      simp only [SRep] at h ⊢
      obtain ⟨a', b', e, h1, h2⟩ := h
      exact ⟨a', b', e, nlcL_ok hf a a' hn.1 h1, nlcL_ok hf b b' hn.2 h2⟩
  | .agg c, u, hn, h => by
      simp only [nlc] at hn
      simp only [SRep] at h ⊢
      obtain ⟨c', e, h1⟩ := h
      exact ⟨c', e, nlcL_ok hf c c' hn h1⟩
  | .tup c, u, hn, h => by
      simp only [nlc] at hn
      simp only [SRep] at h ⊢
      obtain ⟨c', e, h1⟩ := h
      exact ⟨c', e, nlcL_ok hf c c' hn h1⟩
  | .md ks c, u, hn, h => by
      simp only [nlc] at hn
      simp only [SRep] at h ⊢
      obtain ⟨b, e, c', vs, eu, hb, hw, hl, hk, hc⟩ := h
      exact ⟨b, e, c', vs, eu, by rw [hf]; exact hb, hw, hl, hk, nlcL_ok hf c vs hn hc⟩
  | .ptr _ _, u, hn, _ | .pe _ _ _, u, hn, _ | .own _, u, hn, _ | .cs _ _ _ _ _, u, hn, _ | .mp _, u, hn, _ => by simp [nlc] at hn
theorem nlcL_ok (hf : cx'.fz = cx.fz) : ∀ (x : List SV) (u : List Value), nlcL x = true → SRepL cx w x u → SRepL cx' w x u
  | [], [], _, _ => by simp only [SRepL]
  | x :: r, v :: vs, hn, h => by
      simp only [nlcL, Bool.and_eq_true] at hn
      simp only [SRepL] at h ⊢
      exact ⟨nlc_ok hf x v hn.1 h.1, nlcL_ok hf r vs hn.2 h.2⟩
  | [], _ :: _, _, h => by simp [SRepL] at h
  | _ :: _, [], _, h => by simp [SRepL] at h
end

theorem nrmP_ok (hf : cx'.fz = cx.fz) {t : PT} {x y : SV} {u : Value} (e : nrmP t x = some y) (h : SRep cx w x u) : SRep cx' w y u := by
  unfold nrmP at e
  split at e
  · obtain ⟨hn, e⟩ := cond_some e
    simp only [Option.some.injEq] at e; subst e
    exact nlc_ok hf _ _ hn h
  · split at e
    · rename_i c' hc
      simp only [Option.some.injEq] at e; subst e
      simp only [SRep] at h ⊢
      obtain ⟨v, e1, h1⟩ := h
      exact ⟨v, e1, nrmC_ok hf hc h1⟩
    · cases e
  · obtain ⟨hk, e'⟩ := cond_some e
    have := kEq_eq hk; subst this
    simp only [Option.some.injEq] at e'; subst e'
    simp only [SRep] at h ⊢; rw [hf]; exact h
  · simp only [Option.some.injEq] at e; subst e
    simp only [SRep, DRep] at h ⊢
    exact ⟨none, 0, h.1, Nat.le_refl _, fun hn => absurd rfl hn⟩
  · rename_i b c
    simp only [Option.some.injEq] at e; subst e
    simp only [SRep, DRep] at h ⊢
    exact ⟨_, _, h.1, Nat.zero_le _, fun hn => absurd rfl hn⟩
  · cases e
theorem nrmPs_ok (hf : cx'.fz = cx.fz) : ∀ {ts : List PT} {x y : List SV} {u : List Value}, nrmPs ts x = some y → SRepL cx w x u → SRepL cx' w y u
  | [], [], y, u, e, h => by
    simp only [nrmPs, Option.some.injEq] at e; subst e
    cases u with
    | nil => simp only [SRepL]
    | cons => simp [SRepL] at h
  | t :: ts, x :: r, y, u, e, h => by
    simp only [nrmPs] at e
    split at e
    · rename_i y' s' h1 h2
      simp only [Option.some.injEq] at e; subst e
      cases u with
      | nil => simp [SRepL] at h
      | cons v vs =>
        simp only [SRepL] at h ⊢
        exact ⟨nrmP_ok hf h1 h.1, nrmPs_ok hf h2 h.2⟩
    · cases e
  | [], _ :: _, _, _, e, _ => by simp [nrmPs] at e
  | _ :: _, [], _, _, e, _ => by simp [nrmPs] at e
end

/-! ### the contracts -/
def altsP {Ω : Type} (k : SV → List Nat → List Nat → SH → Option Ω) (h : SH) : List (Bool × SV) → Option Ω
  | [] => none
  | (g, r) :: rest => br g (k r [] [] h) (altsP k h rest)
def firstP : List (Bool × SV) → Option SV
  | [] => none
  | (g, r) :: rest => bif g then some r else firstP rest
theorem altsP_first {Ω : Type} {k : SV → List Nat → List Nat → SH → Option Ω} {h : SH} {out : Ω} : ∀ {L : List (Bool × SV)}, altsP k h L = some out → ∃ r, firstP L = some r ∧ k r [] [] h = some out
  | [], e => by cases e
  | (g, r) :: rest, e => by
    simp only [altsP] at e
    rcases br_some e with ⟨rfl, e⟩ | ⟨rfl, e⟩
    · exact ⟨r, rfl, e⟩
    · obtain ⟨r', h1, h2⟩ := altsP_first e
      exact ⟨r', h1, h2⟩
theorem altsP_of {Ω : Type} {k : SV → List Nat → List Nat → SH → Option Ω} {h : SH} : ∀ {L : List (Bool × SV)} {r : SV}, firstP L = some r → altsP k h L = k r [] [] h
  | [], r, e => by cases e
  | (g, r') :: rest, r, e => by
    simp only [firstP] at e
    cases g with
    | true => simp only [cond_true, Option.some.injEq] at e; subst e; rfl
    | false => exact altsP_of (L := rest) e

/-- A function of data, by its result as data. -/
def pureSpec (ts : List PT) (F : List SV → List (Bool × SV)) {Ω : Type} : Spec Ω := fun args h k =>
  match nrmPs ts args with
  | some az => altsP k h (F az)
  | none => none
theorem pure_par {ts : List PT} {F : List SV → List (Bool × SV)} {Ω Ω' : Type} : SpecPar (pureSpec ts F (Ω := Ω)) (pureSpec ts F (Ω := Ω')) := by
  intro args h k out hs
  unfold pureSpec at hs ⊢
  split at hs
  · obtain ⟨r, h1, h2⟩ := altsP_first hs
    exact ⟨_, _, _, _, h2, fun k' => altsP_of h1⟩
  · cases hs
theorem enter_fn {P : Program} {g : Nat} {fn : Func} (hf : P.funcs[g]? = some fn) (hname : (fn.name == "runtime.NumGoroutine") = false) {C : CF} (hC : coF P fn = some C) : ∀ (args : Array Value) (w : World), (callFunc g args).run P w = .ok (.enter g args) w := by
  have hbody : ∃ c, fn.body = some c := by
    unfold coF at hC
    split at hC
    · rename_i c hb; exact ⟨c, hb⟩
    · cases hC
  obtain ⟨c, hb⟩ := hbody
  intro args w
  have h1 : fn.name ≠ "runtime.NumGoroutine" := by simpa using hname
  simp [callFunc, hf, h1, hb]

theorem pureGood {P : Program} {g : Nat} {fn : Func} (hf : P.funcs[g]? = some fn) (hname : (fn.name == "runtime.NumGoroutine") = false) {C : CF} (hC : coF P fn = some C) {A : Ann} {e : {Ω : Type} → Env Ω} (he : GoodE P e) (hmix : P.follows .mixedOrders = true)
    {ts : List PT} {F : List SV → List (Bool × SV)}
    (hrun : ∀ az r, firstP (F az) = some r → ∃ r0 y H, sxFn (e (Ω := SV × SH)) A C az [] (fun r h => some (r, h)) = some (r0, H) ∧ dat true H r0 = some y ∧ ∀ cx w u, SRep cx w y u → SRep cx w r u) :
    Good1 P g (fun {Ω} => pureSpec ts F (Ω := Ω)) := by
  refine ⟨fun Ω => ⟨enter_fn hf hname hC, fun args h k out hs => ?_⟩, fun Ω Ω' => pure_par⟩
  unfold pureSpec at hs
  split at hs
  · rename_i az hl
    obtain ⟨r, hF, hk⟩ := altsP_first hs
    obtain ⟨r0, y, H, hrun, hdat, hle⟩ := hrun az r hF
    refine ⟨_, [], [], _, hk, ⟨Nat.le_refl _, fun _ _ _ => rfl⟩, fun cx w vals hg ha => ?_⟩
    have hfz : (cxL w cx.fz).fz = cx.fz := funext fun b => propext ⟨And.right, fun q => ⟨hg.fzlt b (.inl q), q⟩⟩
    refine (fn_calls (he.ok _) hmix hf hC hrun (cxL w cx.fz) w vals (gamL w _) (nrmPs_ok hfz hl ha)).mono fun e w' ⟨v, cxq, e1, gr, hr, hG⟩ => ?_
    have hsame : ∀ b, b < w.heap.size → w'.heap[b]? = w.heap[b]? := fun b hb => gr.same b (cxL_all hb)
    obtain ⟨k1, k2⟩ := fresh_data hg hsame gr.size gr.io
    have nm : (fun l => nmem l []) = fun _ => false := funext fun l => by simp [nmem]
    rw [nm]
    refine ⟨v, cxN cx w w', e1, k1, hle _ _ _ (dat_rep hG (fun _ b hb => ?_) (fun l hl => ?_) _ _ _ hdat hr), k2⟩
    · rcases Nat.lt_or_ge b w.heap.size with h1 | h1
      · refine .inl ?_
        have h2 := hG.dj b hb
        rw [gr.fr] at h2
        rcases Classical.em (cx.fz b) with h3 | h3
        · exact h3
        · exact absurd ⟨h1, h3⟩ h2
      · exact .inr ⟨h1, hG.fzlt b (.inl hb)⟩
    · refine .inr ⟨?_, hG.lt l hl⟩
      rcases Nat.lt_or_ge (cxq.th l) w.heap.size with h1 | h1
      · exact absurd (gr.hd _ (cxL_all h1)) (hG.own l hl)
      · exact h1
  · cases hs

/-! ### results that say less: nil lists as empty lists -/
end Go.Sx

/- The contract of take.ways: a table of functions, as data. -/
namespace Go.Sx.Pr
open Go Go.Sx Go.Sx.Md Go.Proofs
set_option maxRecDepth 100000
abbrev kI (x : Int) : Value := .int .i64 x
abbrev fnC (n : Nat) : SV := .fn (.func n) [] []
def waysL : SV := .md [kI 10, kI 11, kI 12, kI 35, kI 30, kI 31, kI 32, kI 33, kI 34]
  [.agg [fnC 92, fnC 116, fnC 117], .agg [fnC 92, fnC 116, fnC 117], .agg [fnC 92, fnC 116, fnC 117], .agg [fnC 15, fnC 121, fnC 122],
   .agg [fnC 15, fnC 118, fnC 118], .agg [fnC 15, fnC 118, fnC 118], .agg [fnC 15, fnC 118, fnC 118], .agg [fnC 15, fnC 119, fnC 120], .agg [fnC 15, fnC 119, fnC 120]]
def S1084p {Ω : Type} : Spec Ω := pureSpec [] fun xs => match xs with | [] => [(true, waysL)] | _ => []
theorem dat_of {P : Program} {e : {Ω : Type} → Env Ω} (he : GoodE P e) {A : Ann} {C : CF} {args : List SV} {y : SV} (hr : sxFn (e (Ω := SV)) A C args [] (fun r h => dat true h r) = some y) :
    ∃ r0 y' H, sxFn (e (Ω := SV × SH)) A C args [] (fun r h => some (r, h)) = some (r0, H) ∧ dat true H r0 = some y' ∧ ∀ cx w u, SRep cx w y' u → SRep cx w y u := by
  obtain ⟨r', h', k1, k2⟩ := sxFn_par (he.par _ (SV × SH)) hr
  exact ⟨r', y, h', k2 _, k1, fun _ _ _ q => q⟩
theorem g1084p : Good1 Try.prog 112 S1084p := pureGood Try.func112 (by kernel_rfl) c1084 e1084 mix (A := A1084) fun xs r hF => by
  split at hF
  · simp only [firstP, cond_true, Option.some.injEq] at hF
    subst hF
    exact dat_of e1084 (by kernel_rfl)
  · cases hF
end Go.Sx.Pr

namespace Go.Sx.Pr
open Go Go.Sx Go.Proofs
set_option maxRecDepth 100000
def K1078_1 : CC := .seq (.reg false [⟨some 76, .ld 33 true (.t 3), none, 0⟩,
   ⟨some 77, .mv (.t 10), none, 0⟩,
   ⟨none, .st 33 (.t 4) (.t 76), none, 0⟩,
   ⟨some 5, .mv (.t 77), none, 0⟩,
   ⟨some 6, .mv (.c (.d (.v (.bool true)))), none, 0⟩])
 (.ret)
def K1078_2 : CC := .seq (.reg false [⟨some 55, .mv (.t 10), none, 0⟩])
 (.block 0 (.seq (.reg false [⟨some 57, .eq .int false (.t 55) (.c (.d (.v (.int .i64 1)))), none, 0⟩,
     ⟨some 56, .mv (.t 57), none, 0⟩])
   (.cond 56 (.reg false [⟨some 59, .fa 1 (.t 8), none, 0⟩,
       ⟨some 60, .ld 1 false (.t 59), none, 0⟩,
       ⟨some 61, .mv (.t 0), none, 0⟩,
       ⟨some 62, .ld 33 true (.t 3), none, 0⟩,
       ⟨some 63, .call (.t 60) [.t 61, .t 62], none, 0⟩,
       ⟨some 58, .mv (.t 63), none, 0⟩,
       ⟨some 64, .ext 0 (.t 58), none, 0⟩,
       ⟨some 65, .ext 1 (.t 58), none, 0⟩,
       ⟨none, .st 33 (.t 3) (.t 64), none, 0⟩,
       ⟨some 10, .mv (.t 65), none, 0⟩])
     (.seq (.reg false [⟨some 67, .eq .int false (.t 55) (.c (.d (.v (.int .i64 2)))), none, 0⟩,
       ⟨some 66, .mv (.t 67), none, 0⟩])
     (.cond 66 (.reg false [⟨some 69, .fa 2 (.t 8), none, 0⟩,
         ⟨some 70, .ld 1 false (.t 69), none, 0⟩,
         ⟨some 71, .mv (.t 0), none, 0⟩,
         ⟨some 72, .ld 33 true (.t 3), none, 0⟩,
         ⟨some 73, .call (.t 70) [.t 71, .t 72], none, 0⟩,
         ⟨some 68, .mv (.t 73), none, 0⟩,
         ⟨some 74, .ext 0 (.t 68), none, 0⟩,
         ⟨some 75, .ext 1 (.t 68), none, 0⟩,
         ⟨none, .st 33 (.t 3) (.t 74), none, 0⟩,
         ⟨some 10, .mv (.t 75), none, 0⟩])
       (.skip))))))
def K1078_3 : CC := .reg false [⟨some 47, .fa 0 (.t 8), none, 0⟩,
   ⟨some 48, .ld 1 false (.t 47), none, 0⟩,
   ⟨some 49, .mv (.t 0), none, 0⟩,
   ⟨some 50, .ld 33 true (.t 3), none, 0⟩,
   ⟨some 51, .call (.t 48) [.t 49, .t 50], none, 0⟩,
   ⟨some 46, .mv (.t 51), none, 0⟩,
   ⟨some 52, .ext 0 (.t 46), none, 0⟩,
   ⟨some 53, .ext 1 (.t 46), none, 0⟩,
   ⟨some 54, .ext 2 (.t 46), none, 0⟩,
   ⟨none, .st 33 (.t 3) (.t 52), none, 0⟩,
   ⟨some 10, .mv (.t 53), none, 0⟩,
   ⟨some 11, .mv (.t 54), none, 0⟩]
def K1078_4 : CC := .seq (.reg false [⟨some 43, .mv (.t 9), none, 0⟩,
   ⟨some 44, .un .not (.t 43), none, 0⟩])
 (.cond 44 (.seq (.reg false [⟨some 45, .ld 33 true (.t 3), none, 0⟩,
     ⟨none, .st 33 (.t 4) (.t 45), none, 0⟩,
     ⟨some 5, .mv (.c (.d (.v (.int .i64 0)))), none, 0⟩,
     ⟨some 6, .mv (.c (.d (.v (.bool false)))), none, 0⟩])
   (.ret))
   (.skip))
def K1078_5 : CC := .reg true [⟨some 37, .call (.c (.fn (.func 112) [] [])) [], none, 0⟩,
   ⟨some 38, .fa 0 (.t 3), none, 0⟩,
   ⟨some 39, .ld 1 false (.t 38), none, 2⟩,
   ⟨some 40, .lku 0 (.agg [.d (.v (.nilFunc)), .d (.v (.nilFunc)), .d (.v (.nilFunc))]) true (.t 37) (.t 39), none, 7⟩,
   ⟨some 36, .mv (.t 40), none, 15⟩,
   ⟨some 41, .ext 0 (.t 36), none, 31⟩,
   ⟨some 42, .ext 1 (.t 36), none, 31⟩,
   ⟨some 8, .newc 136 [.d (.v (.nilFunc)), .d (.v (.nilFunc)), .d (.v (.nilFunc))], none, 0⟩,
   ⟨none, .st 3 (.t 8) (.t 41), none, 191⟩,
   ⟨some 9, .mv (.t 42), none, 511⟩]
def K1078_6 : CC := .seq (.reg false [⟨some 20, .mv (.t 0), none, 0⟩,
   ⟨some 21, .call (.c (.fn (.func 58) [] [])) [.t 20, .c (.d (.v (.int .i64 1)))], none, 0⟩,
   ⟨some 7, .mv (.t 21), none, 0⟩])
 (.seq (.seq (.reg false [⟨some 22, .mv (.t 7), none, 0⟩,
   ⟨some 23, .conv .u32 (.t 22), none, 0⟩,
   ⟨some 24, .eq .int false (.t 23) (.c (.d (.v (.int .u32 0)))), none, 0⟩,
   ⟨some 25, .mv (.t 24), none, 0⟩,
   ⟨some 26, .mv (.t 7), some (25, true), 0⟩,
   ⟨some 27, .bin .shr (.t 26) (.c (.d (.v (.int .u64 32)))), some (25, true), 0⟩,
   ⟨some 28, .fa 26 (.t 3), some (25, true), 0⟩,
   ⟨some 29, .ld 1 false (.t 28), some (25, true), 0⟩,
   ⟨some 30, .eq .int false (.t 27) (.t 29), some (25, true), 0⟩,
   ⟨some 31, .pick (.t 25) (.t 30) (.c (.d (.v (.bool false)))), none, 0⟩])
 (.cond 31 (.seq (.reg false [⟨some 32, .fa 0 (.t 3), none, 0⟩,
     ⟨none, .st 1 (.t 32) (.c (.d (.v (.int .i64 0)))), none, 0⟩])
   (.seq (.reg false [⟨some 33, .ld 33 true (.t 3), none, 0⟩,
     ⟨none, .st 33 (.t 4) (.t 33), none, 0⟩,
     ⟨some 5, .mv (.c (.d (.v (.int .i64 2)))), none, 0⟩,
     ⟨some 6, .mv (.c (.d (.v (.bool true)))), none, 0⟩])
   (.ret)))
   (.skip)))
 (.seq (.reg false [⟨some 34, .ld 33 true (.t 3), none, 0⟩,
   ⟨some 35, .call (.c (.fn (.func 95) [] [])) [.t 34], none, 0⟩,
   ⟨none, .st 33 (.t 4) (.t 35), none, 0⟩,
   ⟨some 5, .mv (.c (.d (.v (.int .i64 0)))), none, 0⟩,
   ⟨some 6, .mv (.c (.d (.v (.bool true)))), none, 0⟩])
 (.ret)))
def K1078_7 : CC := .reg false [⟨some 18, .mv (.t 0), none, 0⟩,
   ⟨some 19, .call (.c (.fn (.func 52) [] [])) [.t 18], none, 0⟩]
def K1078_8 : CC := .reg false [⟨some 15, .fa 0 (.t 3), none, 0⟩,
   ⟨some 16, .ld 1 false (.t 15), none, 0⟩,
   ⟨some 17, .eq .int false (.t 16) (.c (.d (.v (.int .i64 38)))), none, 0⟩]
def K1078_9 : CC := .seq (.reg false [⟨some 12, .mv (.t 0), none, 0⟩,
   ⟨some 13, .eq .ptr false (.t 12) (.c (.d (.v (.pointer none)))), none, 0⟩])
 (.cond 13 (.seq (.reg false [⟨some 14, .ld 33 true (.t 3), none, 0⟩,
     ⟨none, .st 33 (.t 4) (.t 14), none, 0⟩,
     ⟨some 5, .mv (.c (.d (.v (.int .i64 0)))), none, 0⟩,
     ⟨some 6, .mv (.c (.d (.v (.bool false)))), none, 0⟩])
   (.ret))
   (.skip))
def K1078_10 : CC := .reg false [⟨some 3, .box 40 33 (.t 1), none, 0⟩,
   ⟨some 4, .newc 40 [.d (.v (.int .i64 0)), .d (.v (.int .i64 0)), .d (.v (.int .u64 0)), .d (.v (.int .u64 0)), .d (.v (.int .i64 0)), .d (.v (.bool false)), .d (.v (.int .i64 0)), .d (.v (.int .i64 0)), .d (.v (.bool false)), .d (.v (.int .u64 0)), .d (.v (.slice none 0 0)), .d (.v (.int .u64 0)), .d (.v (.slice none 0 0)), .d (.v (.int .u64 0)), .d (.v (.slice none 0 0)), .d (.v (.int .u64 0)), .d (.v (.slice none 0 0)), .d (.v (.slice none 0 0)), .d (.v (.int .i64 0)), .d (.v (.int .i64 0)), .d (.v (.int .i64 0)), .d (.v (.int .i64 0)), .d (.v (.int .i64 0)), .d (.v (.int .u64 0)), .d (.v (.int .u64 0)), .d (.v (.int .u64 0)), .d (.v (.int .u64 0)), .d (.v (.int .u64 0)), .d (.v (.int .i64 0)), .d (.v (.slice none 0 0)), .d (.v (.int .u64 0)), .d (.v (.int .i64 0)), .d (.v (.bool false))], none, 0⟩,
   ⟨some 5, .mv (.c (.d (.v (.int .i64 0)))), none, 0⟩,
   ⟨some 6, .mv (.c (.d (.v (.bool false)))), none, 0⟩]
/-- coatcheck/take.Step -/
def C1078 : CF := ⟨2, [(4, some (33, true)), (5, none), (6, none)],
 .seq K1078_10 (.seq K1078_9 (.seq (.seq K1078_8 (.cond 17 (.seq K1078_7 K1078_6) .skip)) (.seq K1078_5 (.seq K1078_4 (.seq K1078_3 (.seq K1078_2 K1078_1))))))⟩
theorem c1078 : coF Try.prog Try.f96 = some C1078 := by kernel_rfl
def A1078 : Ann := { keep := [0, 1, 3, 4, 5, 6, 7, 8, 9, 10, 13, 17, 31, 44, 55, 56, 66], live := [], pu := [112] }
def E1078 {Ω : Type} : Env Ω := econs 15 S61m (econs 52 S29m (econs 58 S21m (econs 92 S45m (econs 95 S1077 (econs 112 S1084p (econs 116 S1087 (econs 117 S1088 (econs 118 S1089 (econs 119 S1090 (econs 120 S1091 (econs 121 S1092 (econs 122 S1093 (enil)))))))))))))
theorem e1078 : GoodE Try.prog E1078 := GoodE.cons g61m (GoodE.cons g29m (GoodE.cons g21m (GoodE.cons g45m (GoodE.cons g1077 (GoodE.cons g1084p (GoodE.cons g1087 (GoodE.cons g1088 (GoodE.cons g1089 (GoodE.cons g1090 (GoodE.cons g1091 (GoodE.cons g1092 (GoodE.cons g1093 (GoodE.nil)))))))))))))
def S1078 {Ω : Type} : Spec Ω := inl E1078 A1078 C1078 false
theorem g1078 : Good1 Try.prog 96 S1078 := Good1.inl e1078 mix Try.func96 (by kernel_rfl) c1078 A1078 false
end Go.Sx.Pr

namespace Go.Sx.Pr
open Go Go.Sx Go.Proofs
set_option maxRecDepth 100000
end Go.Sx.Pr

/- Contracts: a ticket's form, and the block of a live ticket, program and document. -/
namespace Go.Sx.Pr
open Go Go.Sx Go.Sx.Md Go.Proofs
set_option maxRecDepth 100000

section
variable {c : Cf} {ws : List Int} {t : Int}
end
end Go.Sx.Pr

namespace Go.Sx.Pr
open Go Go.Sx Go.Proofs
set_option maxRecDepth 100000
def K1045_1 : CC := .seq (.reg false [⟨some 6, .mv (.c (.d (.v (.bool false)))), none, 0⟩])
 (.ret)
def L1045_2 : CC := .seq (.reg false [⟨some 32, .bin .lss (.t 31) (.t 30), none, 0⟩])
 (.seq (.cond 32 (.skip)
   (.exit 0))
 (.seq (.block 1 (.seq (.reg false [⟨some 33, .mv (.t 31), none, 0⟩,
     ⟨some 9, .mv (.t 33), none, 0⟩])
   (.seq (.reg false [⟨some 34, .mv (.t 1), none, 0⟩,
     ⟨some 35, .ld 8 true (.t 7), none, 0⟩,
     ⟨some 36, .mv (.t 9), none, 0⟩,
     ⟨some 37, .call (.c (.fn (.func 56) [] [])) [.t 35, .t 36], none, 0⟩,
     ⟨some 38, .ixs 1 (.t 34) (.t 37), none, 0⟩,
     ⟨some 39, .ld 1 false (.t 38), none, 0⟩,
     ⟨some 40, .mv (.t 2), none, 0⟩,
     ⟨some 41, .call (.c (.fn (.func 21) [] [])) [.t 39, .t 40], none, 0⟩])
   (.cond 41 (.seq (.reg false [⟨some 6, .mv (.c (.d (.v (.bool true)))), none, 0⟩])
     (.ret))
     (.skip)))))
 (.reg false [⟨some 42, .bin .add (.t 31) (.c (.d (.v (.int .i64 1)))), none, 0⟩,
   ⟨some 31, .mv (.t 42), none, 0⟩])))
def K1045_3 : CC := .reg false [⟨some 29, .fa 1 (.t 3), none, 0⟩,
   ⟨some 30, .ld 1 false (.t 29), none, 0⟩,
   ⟨some 31, .mv (.c (.d (.v (.int .i64 0)))), none, 0⟩]
def K1045_4 : CC := .seq (.reg false [⟨some 24, .mv (.t 1), none, 0⟩,
   ⟨some 25, .ixs 1 (.t 24) (.c (.d (.v (.int .i64 1)))), none, 0⟩,
   ⟨some 26, .ld 1 false (.t 25), none, 0⟩,
   ⟨some 27, .conv .u32 (.t 26), none, 0⟩,
   ⟨some 28, .eq .int true (.t 27) (.c (.d (.v (.int .u32 0)))), none, 0⟩])
 (.cond 28 (.seq (.reg false [⟨some 6, .mv (.c (.d (.v (.bool true)))), none, 0⟩])
   (.ret))
   (.skip))
def K1045_5 : CC := .seq (.reg false [⟨some 15, .mv (.t 8), none, 0⟩,
   ⟨some 16, .eq .int true (.t 15) (.c (.d (.v (.int .i64 0)))), none, 0⟩,
   ⟨some 17, .mv (.t 16), none, 0⟩,
   ⟨some 18, .mv (.t 1), some (17, false), 0⟩,
   ⟨some 19, .len (.t 18), some (17, false), 0⟩,
   ⟨some 20, .ld 8 true (.t 7), some (17, false), 0⟩,
   ⟨some 21, .call (.c (.fn (.func 86) [] [])) [.t 20], some (17, false), 0⟩,
   ⟨some 22, .eq .int true (.t 19) (.t 21), some (17, false), 0⟩,
   ⟨some 23, .pick (.t 17) (.c (.d (.v (.bool true)))) (.t 22), none, 0⟩])
 (.cond 23 (.seq (.reg false [⟨some 6, .mv (.c (.d (.v (.bool false)))), none, 0⟩])
   (.ret))
   (.skip))
def K1045_6 : CC := .reg false [⟨some 11, .ld 8 true (.t 3), none, 0⟩,
   ⟨some 12, .call (.c (.fn (.func 85) [] [])) [.t 11], none, 0⟩,
   ⟨some 10, .mv (.t 12), none, 0⟩,
   ⟨some 13, .ext 0 (.t 10), none, 0⟩,
   ⟨some 14, .ext 1 (.t 10), none, 0⟩,
   ⟨some 7, .newc 75 [.d (.v (.int .i64 0)), .d (.v (.int .i64 0)), .d (.v (.int .i64 0)), .d (.v (.int .i64 0)), .d (.v (.int .i64 0)), .d (.v (.int .i64 0)), .d (.v (.int .i64 0)), .d (.v (.int .u64 0))], none, 0⟩,
   ⟨none, .st 8 (.t 7) (.t 13), none, 0⟩,
   ⟨some 8, .mv (.t 14), none, 0⟩]
def K1045_7 : CC := .reg false [⟨some 3, .box 26 8 (.t 0), none, 0⟩,
   ⟨some 6, .mv (.c (.d (.v (.bool false)))), none, 0⟩]
/-- coatcheck/take.Spare -/
def C1045 : CF := ⟨3, [(6, none)],
 .seq K1045_7 (.seq K1045_6 (.seq K1045_5 (.seq K1045_4 (.seq (.seq K1045_3 (.block 0 (.loop L1045_2))) K1045_1))))⟩
theorem c1045 : coF Try.prog Try.f47 = some C1045 := by kernel_rfl
def A1045 : Ann := { keep := [0, 1, 2, 3, 6, 7, 8, 9, 23, 28, 30, 31, 32, 41], live := [(0, [1, 2, 7, 30, 31])] }
def E1045 {Ω : Type} : Env Ω := econs 21 S98c (econs 56 S95 (econs 85 S63 (econs 86 S64 (enil))))
theorem e1045 : GoodE Try.prog E1045 := GoodE.cons g98c (GoodE.cons g95 (GoodE.cons g63 (GoodE.cons g64 (GoodE.nil))))
def Z1045_2 {Ω : Type} (it : Itr Ω) (K : SV → SH → Option Ω) : SE → SS → Option Ω := kblk 0 (kseq it E1045 A1045 K1045_1 0 (kfn C1045 K))
def K1046_1 : CC := .seq (.reg false [⟨some 46, .mv (.t 7), none, 0⟩,
   ⟨some 6, .mv (.t 46), none, 0⟩])
 (.ret)
def L1046_2 : CC := .seq (.seq (.reg false [⟨some 27, .mv (.t 8), none, 0⟩,
   ⟨some 28, .fa 1 (.t 3), none, 0⟩,
   ⟨some 29, .ld 1 false (.t 28), none, 0⟩,
   ⟨some 30, .bin .lss (.t 27) (.t 29), none, 0⟩])
 (.cond 30 (.skip)
   (.exit 0)))
 (.seq (.block 1 (.seq (.reg false [⟨some 34, .ld 8 true (.t 3), none, 0⟩,
     ⟨some 35, .mv (.t 1), none, 0⟩,
     ⟨some 36, .mv (.t 8), none, 0⟩,
     ⟨some 37, .call (.c (.fn (.func 19) [] [])) [.t 34, .t 35, .t 36], none, 0⟩,
     ⟨some 33, .mv (.t 37), none, 0⟩,
     ⟨some 38, .ext 0 (.t 33), none, 0⟩,
     ⟨some 39, .ext 1 (.t 33), none, 0⟩,
     ⟨some 9, .mv (.t 38), none, 0⟩,
     ⟨some 10, .mv (.t 39), none, 0⟩])
   (.reg false [⟨some 40, .mv (.t 7), none, 0⟩,
     ⟨some 41, .mv (.t 40), none, 0⟩,
     ⟨some 42, .mv (.t 9), some (41, false), 0⟩,
     ⟨some 43, .mv (.t 2), some (41, false), 0⟩,
     ⟨some 44, .call (.c (.fn (.func 22) [] [])) [.t 42, .t 43], some (41, false), 0⟩,
     ⟨some 45, .pick (.t 41) (.c (.d (.v (.bool true)))) (.t 44), none, 0⟩,
     ⟨some 7, .mv (.t 45), none, 0⟩])))
 (.reg false [⟨some 31, .mv (.t 8), none, 0⟩,
   ⟨some 32, .bin .add (.t 31) (.c (.d (.v (.int .i64 1)))), none, 0⟩,
   ⟨some 8, .mv (.t 32), none, 0⟩]))
def K1046_3 : CC := .reg false [⟨some 8, .mv (.c (.d (.v (.int .i64 0)))), none, 0⟩]
def K1046_4 : CC := .reg false [⟨some 22, .mv (.t 1), none, 0⟩,
   ⟨some 23, .ixs 1 (.t 22) (.c (.d (.v (.int .i64 1)))), none, 0⟩,
   ⟨some 24, .ld 1 false (.t 23), none, 0⟩,
   ⟨some 25, .call (.c (.fn (.func 66) [] [])) [.t 24, .c (.d (.v (.int .i64 32)))], none, 0⟩,
   ⟨some 26, .eq .int true (.t 25) (.c (.d (.v (.int .u64 0)))), none, 0⟩,
   ⟨some 7, .mv (.t 26), none, 0⟩]
def K1046_5 : CC := .seq (.reg false [⟨some 11, .ld 8 true (.t 3), none, 0⟩,
   ⟨some 12, .call (.c (.fn (.func 64) [] [])) [.t 11], none, 0⟩,
   ⟨some 13, .eq .int true (.t 12) (.c (.d (.v (.int .i64 0)))), none, 0⟩,
   ⟨some 14, .mv (.t 13), none, 0⟩,
   ⟨some 15, .mv (.t 1), some (14, false), 0⟩,
   ⟨some 16, .len (.t 15), some (14, false), 0⟩,
   ⟨some 17, .ld 8 true (.t 3), some (14, false), 0⟩,
   ⟨some 18, .call (.c (.fn (.func 65) [] [])) [.t 17], some (14, false), 0⟩,
   ⟨some 19, .len (.t 18), some (14, false), 0⟩,
   ⟨some 20, .eq .int true (.t 16) (.t 19), some (14, false), 0⟩,
   ⟨some 21, .pick (.t 14) (.c (.d (.v (.bool true)))) (.t 20), none, 0⟩])
 (.cond 21 (.seq (.reg false [⟨some 6, .mv (.c (.d (.v (.bool false)))), none, 0⟩])
   (.ret))
   (.skip))
def K1046_6 : CC := .reg false [⟨some 3, .box 26 8 (.t 0), none, 0⟩,
   ⟨some 6, .mv (.c (.d (.v (.bool false)))), none, 0⟩]
/-- coatcheck/coatcheckref09.Spare -/
def C1046 : CF := ⟨3, [(6, none)],
 .seq K1046_6 (.seq K1046_5 (.seq K1046_4 (.seq (.seq K1046_3 (.block 0 (.loop L1046_2))) K1046_1)))⟩
theorem c1046 : coF Try.prog Try.f48 = some C1046 := by kernel_rfl
def A1046 : Ann := { keep := [0, 1, 2, 3, 6, 7, 8, 9, 21, 30], live := [(0, [1, 2, 3, 7, 8])] }
def E1046 {Ω : Type} : Env Ω := econs 19 S1024c (econs 22 S105c (econs 64 S19 (econs 65 S20d (econs 66 S80c (enil)))))
theorem e1046 : GoodE Try.prog E1046 := GoodE.cons g1024c (GoodE.cons g105c (GoodE.cons g19 (GoodE.cons g20d (GoodE.cons g80c (GoodE.nil)))))
def Z1046_2 {Ω : Type} (it : Itr Ω) (K : SV → SH → Option Ω) : SE → SS → Option Ω := kblk 0 (kseq it E1046 A1046 K1046_1 0 (kfn C1046 K))
end Go.Sx.Pr

/- Contracts: is there a block to spare? Program and document. -/
namespace Go.Sx.Pr
open Go Go.Sx Go.Sx.Md Go.Proofs
set_option maxRecDepth 100000
theorem n1045 {Ω : Type} (it : Itr Ω) (K : SV → SH → Option Ω) (c : Cf) (ws : List Int) (e : Int) :
    sxFnI it E1045 A1045 C1045 [.agg (encC c), .d (.ints .u64 ws), U e] [] K =
    br (!chkC c == 0) (br (!chkC c == 0) (K (B false) [.cells 26 (encC c), .cells 75 [I 0, I 0, I 0, I 0, I 0, I 0, I 0, U 0]]) (br (! (↑ (List.length ws) : Int) == 0) (K (B false) [.cells 26 (encC c), .cells 75 [I 0, I 0, I 0, I 0, I 0, I 0, I 0, U 0]]) (br (inB 1 (List.length ws)) (br (!IntKind.wrap .u32 (List.getD ws 1 0) == 0) (K (B true) [.cells 26 (encC c), .cells 75 [I 0, I 0, I 0, I 0, I 0, I 0, I 0, U 0]]) (it [1, 2, 7, 30, 31] 2 (sxI it E1045 A1045 L1045_2 0) (SS.mk [(1, .d (DV.ints .u64 ws)), (2, U e), (7, .ptr 1 0), (30, I (Cf.b c)), (31, I 0)] [.cells 26 (encC c), .cells 75 [I 0, I 0, I 0, I 0, I 0, I 0, I 0, U 0]]) (Z1045_2 it K))) none))) (br (! (↑ (List.length ws) : Int) == szC c) (K (B false) [.cells 26 (encC c), .cells 75 (encC c)]) (br (inB 1 (List.length ws)) (br (!IntKind.wrap .u32 (List.getD ws 1 0) == 0) (K (B true) [.cells 26 (encC c), .cells 75 (encC c)]) (it [1, 2, 7, 30, 31] 2 (sxI it E1045 A1045 L1045_2 0) (SS.mk [(1, .d (DV.ints .u64 ws)), (2, U e), (7, .ptr 1 0), (30, I (Cf.b c)), (31, I 0)] [.cells 26 (encC c), .cells 75 (encC c)]) (Z1045_2 it K))) none)) := by kernel_rfl
theorem n1046 {Ω : Type} (it : Itr Ω) (K : SV → SH → Option Ω) (c : Cf) (ws : List Int) (e : Int) :
    sxFnI it E1046 A1046 C1046 [.agg (encC c), .d (.ints .u64 ws), U e] [] K =
    br (!chkC c == 0) (K (B false) [.cells 26 (encC c)]) (br (chkC c == 0) (br (! (↑ (List.length ws) : Int) == (↑ (sizeN (Int.toNat (Cf.a c)) (Int.toNat (Cf.b c)) (Int.toNat (Cf.c c)) (Int.toNat (Cf.d c)) (Int.toNat (Cf.e c))) : Int)) (K (B false) [.cells 26 (encC c)]) (br (inB 1 (List.length ws)) (br (decide (0 ≤ List.getD ws (Int.toNat 1) 0) && true) (it [1, 2, 3, 7, 8] 1 (sxI it E1046 A1046 L1046_2 0) (SS.mk [(1, .d (DV.ints .u64 ws)), (2, U e), (3, .ptr 0 0), (7, B !List.getD ws 1 0 % 4294967296 == 0), (8, I 0)] [.cells 26 (encC c)]) (Z1046_2 it K)) none) none)) none) := by kernel_rfl
theorem r1045 {Ω : Type} (it : Itr Ω) (IT : SS → Option Ω) (K : SV → SH → Option Ω) (c : Cf) (ws : List Int) (e n j : Int) :
    sxI it E1045 A1045 L1045_2 0 ⟨[(1, .d (.ints .u64 ws)), (2, U e), (7, .ptr 1 0), (30, I n), (31, I j)], [.cells 26 (encC c), .cells 75 (encC c)]⟩ (kitV [1, 2, 7, 30, 31] 2 IT (Z1045_2 it K)) =
    br (decide (j < n)) (br (inB (adr c 2 j) (List.length ws)) (br (uB (List.getD ws (Int.toNat (adr c 2 j)) 0) && uB e) (br (readyV (List.getD ws (Int.toNat (adr c 2 j)) 0) e) (K (B true) [.cells 26 (encC c), .cells 75 (encC c)]) (IT (SS.mk [(1, .d (DV.ints .u64 ws)), (2, U e), (7, .ptr 1 0), (30, I n), (31, I (w64' (j + 1)))] [.cells 26 (encC c), .cells 75 (encC c)]))) none) none) (K (B false) [.cells 26 (encC c), .cells 75 (encC c)]) := by kernel_rfl
theorem r1046 {Ω : Type} (it : Itr Ω) (IT : SS → Option Ω) (K : SV → SH → Option Ω) (c : Cf) (ws : List Int) (e j : Int) (b : Bool) :
    sxI it E1046 A1046 L1046_2 0 ⟨[(1, .d (.ints .u64 ws)), (2, U e), (3, .ptr 0 0), (7, B b), (8, I j)], [.cells 26 (encC c)]⟩ (kitV [1, 2, 3, 7, 8] 1 IT (Z1046_2 it K)) =
    br (decide (j < Cf.b c)) (br b (IT (SS.mk [(1, .d (DV.ints .u64 ws)), (2, U e), (3, .ptr 0 0), (7, B true), (8, I (w64' (j + 1)))] [.cells 26 (encC c)])) (br (uB (Prod.fst (wordV (c) ws j)) && uB e) (IT (SS.mk [(1, .d (DV.ints .u64 ws)), (2, U e), (3, .ptr 0 0), (7, B (readyV (Prod.fst (wordV (c) ws j)) e)), (8, I (w64' (j + 1)))] [.cells 26 (encC c)])) none)) (K (B b) [.cells 26 (encC c)]) := by kernel_rfl

/-- Is one of these slabs ready? -/
def anyR (c : Cf) (ws : List Int) (e : Int) : Nat → Int → Bool
  | 0, _ => false
  | r + 1, j => readyV (wordV c ws j).1 e || anyR c ws e r (j + 1)
def spareV (c : Cf) (ws : List Int) (e : Int) : Bool := bif (chkC c == 0) && ((ws.length : Int) == szC c) then (!(ws.getD 1 0 % 4294967296 == 0)) || anyR c ws e c.b.toNat 0 else false
section
variable {c : Cf} {ws : List Int} {e : Int}
theorem l1045 (h0 : chkC c = 0) (h1 : (ws.length : Int) = szC c) (hu : u64B ws = true) (he : uB e = true) : ∀ (r j N : Nat), (j : Int) + r = c.b → r < N →
    GivesV (iter [1, 2, 7, 30, 31] 2 (sxI itB E1045 A1045 L1045_2 0) N ⟨[(1, .d (.ints .u64 ws)), (2, U e), (7, .ptr 1 0), (30, I c.b), (31, I j)], [.cells 26 (encC c), .cells 75 (encC c)]⟩ (Z1045_2 itB KS)) (B (anyR c ws e r j))
  | 0, j, N, hj, hN => by
    obtain ⟨N, rfl⟩ : ∃ k, N = k + 1 := ⟨N - 1, by omega⟩
    rw [iter_succ, r1045, decide_eq_false (by omega), br_f]
    exact givesV
  | r + 1, j, N, hj, hN => by
    obtain ⟨N, rfl⟩ : ∃ k, N = k + 1 := ⟨N - 1, by omega⟩
    obtain ⟨⟨a1, a2⟩, ⟨b1, b2⟩, _⟩ := chk_zero h0
    have hs := szC_eq h0
    have ha : adr c 2 j = 3 + c.a + j := by rw [adr2 h0, if_pos ⟨by omega, by omega⟩]
    rw [iter_succ, r1045, decide_eq_true (by omega), br_t, ha, show inB (3 + c.a + j) ws.length = true by
      simp only [inB, Bool.and_eq_true, decide_eq_true_eq]
      unfold sizeN at hs; omega, br_t, u64B_all hu, he, Bool.and_self, br_t]
    have hw := wordV_yes (j := (j : Int)) h0 h1 (by omega) (by omega)
    unfold anyR
    rw [hw]
    cases readyV (ws.getD (3 + c.a + (j : Int)).toNat 0) e with
    | true => exact givesV
    | false =>
      rw [br_f, Bool.false_or, w64_id (by omega) (by omega)]
      have ih := l1045 h0 h1 hu he r (j + 1) N (by push_cast; omega) (by omega)
      rw [show ((j + 1 : Nat) : Int) = (j : Int) + 1 by push_cast; rfl] at ih
      exact ih
theorem l1046 (h0 : chkC c = 0) (h1 : (ws.length : Int) = szC c) (hu : u64B ws = true) (he : uB e = true) : ∀ (r j N : Nat) (b : Bool), (j : Int) + r = c.b → r < N →
    GivesV (iter [1, 2, 3, 7, 8] 1 (sxI itB E1046 A1046 L1046_2 0) N ⟨[(1, .d (.ints .u64 ws)), (2, U e), (3, .ptr 0 0), (7, B b), (8, I j)], [.cells 26 (encC c)]⟩ (Z1046_2 itB KS)) (B (b || anyR c ws e r j))
  | 0, j, N, b, hj, hN => by
    obtain ⟨N, rfl⟩ : ∃ k, N = k + 1 := ⟨N - 1, by omega⟩
    rw [iter_succ, r1046, decide_eq_false (by omega), br_f, show anyR c ws e 0 j = false from rfl, Bool.or_false]
    exact givesV
  | r + 1, j, N, b, hj, hN => by
    obtain ⟨N, rfl⟩ : ∃ k, N = k + 1 := ⟨N - 1, by omega⟩
    obtain ⟨⟨a1, a2⟩, ⟨b1, b2⟩, _⟩ := chk_zero h0
    have ih := fun q => l1046 h0 h1 hu he r (j + 1) N q (by push_cast; omega) (by omega)
    simp only [show ((j + 1 : Nat) : Int) = (j : Int) + 1 by push_cast; rfl] at ih
    rw [iter_succ, r1046, decide_eq_true (by omega), br_t, wordV_u hu, he, Bool.and_self, br_t, w64_id (by omega) (by omega)]
    unfold anyR
    cases b with
    | true =>
      rw [br_t]
      have := ih true
      rw [Bool.true_or] at this ⊢
      exact this
    | false =>
      rw [br_f, Bool.false_or]
      exact ih _
theorem wrap32 (x : Int) : IntKind.wrap .u32 x = x % 4294967296 := by rw [IntKind.wrap_u32]
theorem v1045 (h : (u64B ws && uB e) = true) : GivesV (sxFn E1045 A1045 C1045 [.agg (encC c), .d (.ints .u64 ws), U e] [] KS) (B (spareV c ws e)) := by
  simp only [Bool.and_eq_true] at h
  rw [← sxFnI_eq, n1045]
  have no : ¬ (chkC c = 0 ∧ (ws.length : Int) = szC c) → spareV c ws e = false := fun q => by
    unfold spareV
    cases e' : (chkC c == 0) && ((ws.length : Int) == szC c) with
    | false => rfl
    | true => simp only [Bool.and_eq_true, beq_iff_eq] at e'; exact absurd e' q
  by_cases h0 : chkC c = 0
  · rw [h0, show (!(0 : Int) == 0) = false from rfl, br_f]
    by_cases h1 : (ws.length : Int) = szC c
    · rw [show (!((ws.length : Int) == szC c)) = false by simp [h1], br_f]
      obtain ⟨⟨a1, a2⟩, ⟨b1, b2⟩, _⟩ := chk_zero h0
      have hs := szC_eq h0
      rw [show inB 1 ws.length = true by
        simp only [inB, Bool.and_eq_true, decide_eq_true_eq]
        unfold sizeN at hs; omega, br_t, wrap32]
      have hsp : spareV c ws e = ((!(ws.getD 1 0 % 4294967296 == 0)) || anyR c ws e c.b.toNat 0) := by unfold spareV; simp [h0, h1]
      rw [hsp]
      cases (ws.getD 1 0 % 4294967296 == 0) with
      | false => exact givesV
      | true =>
        rw [Bool.not_true, br_f, Bool.false_or, itB_def]
        exact l1045 h0 h1 h.1 h.2 c.b.toNat 0 big (by omega) (by unfold big; omega)
    · rw [show (!((ws.length : Int) == szC c)) = true by simp [h1], br_t, no (fun q => h1 q.2)]
      exact givesV
  · rw [show (!chkC c == 0) = true by simp [h0], br_t, br_t, no (fun q => h0 q.1)]
    exact givesV
theorem v1046 (h : (u64B ws && uB e) = true) : GivesV (sxFn E1046 A1046 C1046 [.agg (encC c), .d (.ints .u64 ws), U e] [] KS) (B (spareV c ws e)) := by
  simp only [Bool.and_eq_true] at h
  rw [← sxFnI_eq, n1046]
  have no : ¬ (chkC c = 0 ∧ (ws.length : Int) = szC c) → spareV c ws e = false := fun q => by
    unfold spareV
    cases e' : (chkC c == 0) && ((ws.length : Int) == szC c) with
    | false => rfl
    | true => simp only [Bool.and_eq_true, beq_iff_eq] at e'; exact absurd e' q
  by_cases h0 : chkC c = 0
  · have hs := szC_eq h0
    rw [h0, show (!(0 : Int) == 0) = false from rfl, br_f, show ((0 : Int) == 0) = true from rfl, br_t, ← hs]
    by_cases h1 : (ws.length : Int) = szC c
    · rw [show (!((ws.length : Int) == szC c)) = false by simp [h1], br_f]
      obtain ⟨⟨a1, a2⟩, ⟨b1, b2⟩, _⟩ := chk_zero h0
      have hw := uB_iff.1 (u64B_all h.1 1)
      rw [show inB 1 ws.length = true by
        simp only [inB, Bool.and_eq_true, decide_eq_true_eq]
        unfold sizeN at hs; omega, br_t, show List.getD ws (Int.toNat 1) 0 = ws.getD 1 0 from rfl, decide_eq_true hw.1, Bool.and_self, br_t, itB_def]
      have hsp : spareV c ws e = ((!(ws.getD 1 0 % 4294967296 == 0)) || anyR c ws e c.b.toNat 0) := by unfold spareV; simp [h0, h1]
      rw [hsp]
      exact l1046 h0 h1 h.1 h.2 c.b.toNat 0 big _ (by omega) (by unfold big; omega)
    · rw [show (!((ws.length : Int) == szC c)) = true by simp [h1], br_t, no (fun q => h1 q.2)]
      exact givesV
  · rw [show (!chkC c == 0) = true by simp [h0], br_t, no (fun q => h0 q.1)]
    exact givesV
end
def F1045v : List (List Int) → Option (Bool × SV × SH)
  | [[c_a, c_b, c_c, c_d, c_e, c_f, c_g, c_l], ws, [e]] => let c := (⟨c_a, c_b, c_c, c_d, c_e, c_f, c_g, c_l⟩ : Md.Cf); some (u64B ws && uB e, B (spareV c ws e), [])
  | _ => none
def S1045c {Ω : Type} : Spec Ω := conSpec [.g cfgK, .s .u64, .i .u64] F1045v
theorem g1045c : Good1 Try.prog 47 S1045c := conGood Try.func47 (by kernel_rfl) c1045 e1045 mix (A := A1045) fun L r hr hl hF => by
  obtain ⟨q0, l0, rfl, z0, hl1⟩ := lenAs_cons hl
  obtain ⟨c_a, c_b, c_c, c_d, c_e, c_f, c_g, c_l, rfl⟩ := eight z0
  obtain ⟨ws, l1, rfl, z1, hl2⟩ := lenAs_cons hl1
  obtain ⟨q2, l2, rfl, z2, hl3⟩ := lenAs_cons hl2
  obtain ⟨e, rfl⟩ := one_of' z2
  have hz := lenAs_nil hl3
  subst hz
  simp only [F1045v, Option.some.injEq, Prod.mk.injEq] at hF
  obtain ⟨hu, rfl, rfl⟩ := hF
  obtain ⟨H, hH⟩ := v1045 (c := (⟨c_a, c_b, c_c, c_d, c_e, c_f, c_g, c_l⟩ : Md.Cf)) (ws := ws) (e := e) (by first | exact hu | exact rfl)
  exact ⟨by first | exact trivial | exact ⟨trivial, trivial⟩ | exact ⟨trivial, trivial, trivial⟩ | exact ⟨trivial, trivial, trivial, trivial⟩, trivial, H, trim_none rfl _, hH⟩

def F1046v : List (List Int) → Option (Bool × SV × SH)
  | [[c_a, c_b, c_c, c_d, c_e, c_f, c_g, c_l], ws, [e]] => let c := (⟨c_a, c_b, c_c, c_d, c_e, c_f, c_g, c_l⟩ : Md.Cf); some (u64B ws && uB e, B (spareV c ws e), [])
  | _ => none
def S1046c {Ω : Type} : Spec Ω := conSpec [.g cfgK, .s .u64, .i .u64] F1046v
theorem g1046c : Good1 Try.prog 48 S1046c := conGood Try.func48 (by kernel_rfl) c1046 e1046 mix (A := A1046) fun L r hr hl hF => by
  obtain ⟨q0, l0, rfl, z0, hl1⟩ := lenAs_cons hl
  obtain ⟨c_a, c_b, c_c, c_d, c_e, c_f, c_g, c_l, rfl⟩ := eight z0
  obtain ⟨ws, l1, rfl, z1, hl2⟩ := lenAs_cons hl1
  obtain ⟨q2, l2, rfl, z2, hl3⟩ := lenAs_cons hl2
  obtain ⟨e, rfl⟩ := one_of' z2
  have hz := lenAs_nil hl3
  subst hz
  simp only [F1046v, Option.some.injEq, Prod.mk.injEq] at hF
  obtain ⟨hu, rfl, rfl⟩ := hF
  obtain ⟨H, hH⟩ := v1046 (c := (⟨c_a, c_b, c_c, c_d, c_e, c_f, c_g, c_l⟩ : Md.Cf)) (ws := ws) (e := e) (by first | exact hu | exact rfl)
  exact ⟨by first | exact trivial | exact ⟨trivial, trivial⟩ | exact ⟨trivial, trivial, trivial⟩ | exact ⟨trivial, trivial, trivial, trivial⟩, trivial, H, trim_none rfl _, hH⟩

end Go.Sx.Pr

namespace Go.Sx.Pr
open Go Go.Sx Go.Proofs
set_option maxRecDepth 100000
def K1044_1 : CC := .seq (.reg false [⟨some 34, .mv (.t 4), none, 0⟩,
   ⟨some 35, .eq .int false (.t 34) (.c (.d (.v (.int .i64 1)))), none, 0⟩,
   ⟨some 36, .mv (.t 35), none, 0⟩,
   ⟨some 37, .fa 18 (.t 3), some (36, true), 0⟩,
   ⟨some 38, .ld 1 false (.t 37), some (36, true), 0⟩,
   ⟨some 39, .eq .int false (.t 38) (.c (.d (.v (.int .i64 1)))), some (36, true), 0⟩,
   ⟨some 40, .pick (.t 36) (.t 39) (.c (.d (.v (.bool false)))), none, 0⟩,
   ⟨some 41, .mv (.t 40), none, 0⟩,
   ⟨some 42, .fa 17 (.t 3), some (41, true), 0⟩,
   ⟨some 43, .ld 1 false (.t 42), some (41, true), 0⟩,
   ⟨some 44, .bsl 3 1 1 [.d (.v (.int .i64 0))] [(0, 1, .c (.d (.v (.int .i64 1))))], some (41, true), 0⟩,
   ⟨some 45, .call (.c (.fn (.func 44) [] [])) [.t 43, .t 44], some (41, true), 0⟩,
   ⟨some 46, .pick (.t 41) (.t 45) (.c (.d (.v (.bool false)))), none, 0⟩,
   ⟨some 0, .mv (.t 46), none, 0⟩])
 (.ret)
def L1044_2 : CC := .seq (.seq (.reg false [⟨some 19, .mv (.t 5), none, 0⟩,
   ⟨some 20, .bin .lss (.t 19) (.c (.d (.v (.int .i64 3)))), none, 0⟩,
   ⟨some 21, .mv (.t 20), none, 0⟩,
   ⟨some 22, .mv (.t 4), some (21, true), 0⟩,
   ⟨some 23, .eq .int false (.t 22) (.c (.d (.v (.int .i64 0)))), some (21, true), 0⟩,
   ⟨some 24, .pick (.t 21) (.t 23) (.c (.d (.v (.bool false)))), none, 0⟩])
 (.cond 24 (.skip)
   (.exit 0)))
 (.seq (.block 1 (.reg false [⟨some 28, .mv (.t 1), none, 0⟩,
     ⟨some 29, .ld 33 true (.t 3), none, 0⟩,
     ⟨some 30, .call (.c (.fn (.func 96) [] [])) [.t 28, .t 29], none, 0⟩,
     ⟨some 27, .mv (.t 30), none, 0⟩,
     ⟨some 31, .ext 0 (.t 27), none, 0⟩,
     ⟨some 32, .ext 1 (.t 27), none, 0⟩,
     ⟨some 33, .ext 2 (.t 27), none, 0⟩,
     ⟨none, .st 33 (.t 3) (.t 31), none, 0⟩,
     ⟨some 4, .mv (.t 32), none, 0⟩]))
 (.reg false [⟨some 25, .mv (.t 5), none, 0⟩,
   ⟨some 26, .bin .add (.t 25) (.c (.d (.v (.int .i64 1)))), none, 0⟩,
   ⟨some 5, .mv (.t 26), none, 0⟩]))
def K1044_3 : CC := .reg false [⟨some 5, .mv (.c (.d (.v (.int .i64 0)))), none, 0⟩]
def K1044_4 : CC := .reg false [⟨some 17, .bld [.d (.v (.int .i64 0)), .d (.v (.int .i64 0)), .d (.v (.int .u64 0)), .d (.v (.int .u64 0)), .d (.v (.int .i64 0)), .d (.v (.bool false)), .d (.v (.int .i64 0)), .d (.v (.int .i64 0)), .d (.v (.bool false)), .d (.v (.int .u64 0)), .d (.v (.slice none 0 0)), .d (.v (.int .u64 0)), .d (.v (.slice none 0 0)), .d (.v (.int .u64 0)), .d (.v (.slice none 0 0)), .d (.v (.int .u64 0)), .d (.v (.slice none 0 0)), .d (.v (.slice none 0 0)), .d (.v (.int .i64 0)), .d (.v (.int .i64 0)), .d (.v (.int .i64 0)), .d (.v (.int .i64 0)), .d (.v (.int .i64 0)), .d (.v (.int .u64 0)), .d (.v (.int .u64 0)), .d (.v (.int .u64 0)), .d (.v (.int .u64 0)), .d (.v (.int .u64 0)), .d (.v (.int .i64 0)), .d (.v (.slice none 0 0)), .d (.v (.int .u64 0)), .d (.v (.int .i64 0)), .d (.v (.bool false))] [(9, 1, .c (.d (.v (.int .u64 2))))], none, 0⟩,
   ⟨some 18, .call (.c (.fn (.func 95) [] [])) [.t 17], none, 0⟩,
   ⟨some 3, .newc 40 [.d (.v (.int .i64 0)), .d (.v (.int .i64 0)), .d (.v (.int .u64 0)), .d (.v (.int .u64 0)), .d (.v (.int .i64 0)), .d (.v (.bool false)), .d (.v (.int .i64 0)), .d (.v (.int .i64 0)), .d (.v (.bool false)), .d (.v (.int .u64 0)), .d (.v (.slice none 0 0)), .d (.v (.int .u64 0)), .d (.v (.slice none 0 0)), .d (.v (.int .u64 0)), .d (.v (.slice none 0 0)), .d (.v (.int .u64 0)), .d (.v (.slice none 0 0)), .d (.v (.slice none 0 0)), .d (.v (.int .i64 0)), .d (.v (.int .i64 0)), .d (.v (.int .i64 0)), .d (.v (.int .i64 0)), .d (.v (.int .i64 0)), .d (.v (.int .u64 0)), .d (.v (.int .u64 0)), .d (.v (.int .u64 0)), .d (.v (.int .u64 0)), .d (.v (.int .u64 0)), .d (.v (.int .i64 0)), .d (.v (.slice none 0 0)), .d (.v (.int .u64 0)), .d (.v (.int .i64 0)), .d (.v (.bool false))], none, 0⟩,
   ⟨none, .st 33 (.t 3) (.t 18), none, 0⟩,
   ⟨some 4, .mv (.c (.d (.v (.int .i64 0)))), none, 0⟩]
def K1044_5 : CC := .seq (.reg false [⟨some 11, .mv (.t 2), none, 0⟩,
   ⟨some 12, .eq .int true (.t 11) (.c (.d (.v (.int .i64 0)))), none, 0⟩,
   ⟨some 13, .mv (.t 12), none, 0⟩,
   ⟨some 14, .mv (.t 1), some (13, false), 0⟩,
   ⟨some 15, .eq .ptr false (.t 14) (.c (.d (.v (.pointer none)))), some (13, false), 0⟩,
   ⟨some 16, .pick (.t 13) (.c (.d (.v (.bool true)))) (.t 15), none, 0⟩])
 (.cond 16 (.seq (.reg false [⟨some 0, .mv (.c (.d (.v (.bool false)))), none, 0⟩])
   (.ret))
   (.skip))
def K1044_6 : CC := .reg false [⟨some 7, .bld [.d (.v (.int .i64 0)), .d (.v (.int .i64 0)), .d (.v (.int .i64 0)), .d (.v (.int .i64 0)), .d (.v (.int .i64 0)), .d (.v (.int .i64 0)), .d (.v (.int .i64 0)), .d (.v (.int .u64 0))] [(0, 1, .c (.d (.v (.int .i64 1)))), (1, 1, .c (.d (.v (.int .i64 1)))), (2, 1, .c (.d (.v (.int .i64 2)))), (3, 1, .c (.d (.v (.int .i64 1)))), (4, 1, .c (.d (.v (.int .i64 1)))), (6, 1, .c (.d (.v (.int .i64 1)))), (7, 1, .c (.d (.v (.int .u64 1))))], none, 0⟩,
   ⟨some 8, .call (.c (.fn (.func 12) [] [])) [.t 7], none, 0⟩,
   ⟨some 6, .mv (.t 8), none, 0⟩,
   ⟨some 9, .ext 0 (.t 6), none, 0⟩,
   ⟨some 10, .ext 1 (.t 6), none, 0⟩,
   ⟨some 1, .mv (.t 9), none, 0⟩,
   ⟨some 2, .mv (.t 10), none, 0⟩]
def K1044_7 : CC := .reg false [⟨some 0, .mv (.c (.d (.v (.bool false)))), none, 0⟩]
/-- coatcheck/coatchecklaw09.awake -/
def C1044 : CF := ⟨0, [(0, none)],
 .seq K1044_7 (.seq K1044_6 (.seq K1044_5 (.seq K1044_4 (.seq (.seq K1044_3 (.block 0 (.loop L1044_2))) K1044_1))))⟩
theorem c1044 : coF Try.prog Try.f46 = some C1044 := by kernel_rfl
def A1044 : Ann := { keep := [0, 1, 2, 3, 4, 5, 16, 24], live := [(0, [1, 3, 4, 5])] }
def E1044 {Ω : Type} : Env Ω := econs 12 S34c (econs 44 S52 (econs 95 S1077 (econs 96 S1078 (enil))))
theorem e1044 : GoodE Try.prog E1044 := GoodE.cons g34c (GoodE.cons g52 (GoodE.cons g1077 (GoodE.cons g1078 (GoodE.nil))))
def S1044 {Ω : Type} : Spec Ω := conSpec [] FTrue
theorem g1044 : Good1 Try.prog 46 S1044 := trueGood Try.func46 (by kernel_rfl) c1044 (A := A1044) e1044 mix (by kernel_rfl)
/-- coatcheck/coatchecklaw09.TakeSpares -/
def C1010 : CF := ⟨3, [(6, none)],
 .seq (.reg false [⟨some 3, .box 26 8 (.t 0), none, 0⟩,
   ⟨some 6, .mv (.c (.d (.v (.bool false)))), none, 0⟩])
 (.seq (.seq (.reg false [⟨some 7, .call (.c (.fn (.func 46) [] [])) [], none, 0⟩,
   ⟨some 8, .un .not (.t 7), none, 0⟩])
 (.cond 8 (.seq (.reg false [⟨some 6, .mv (.c (.d (.v (.bool false)))), none, 0⟩])
   (.ret))
   (.skip)))
 (.seq (.seq (.reg false [⟨some 9, .ld 8 true (.t 3), none, 0⟩,
   ⟨some 10, .call (.c (.fn (.func 18) [] [])) [.t 9], none, 0⟩,
   ⟨some 11, .mv (.t 10), none, 0⟩,
   ⟨some 12, .mv (.t 1), some (11, false), 0⟩,
   ⟨some 13, .len (.t 12), some (11, false), 0⟩,
   ⟨some 14, .bin .gtr (.t 13) (.c (.d (.v (.int .i64 400)))), some (11, false), 0⟩,
   ⟨some 15, .pick (.t 11) (.c (.d (.v (.bool true)))) (.t 14), none, 0⟩])
 (.cond 15 (.seq (.reg false [⟨some 6, .mv (.c (.d (.v (.bool true)))), none, 0⟩])
   (.ret))
   (.skip)))
 (.seq (.reg true [⟨some 16, .ld 8 true (.t 3), none, 0⟩,
   ⟨some 17, .mv (.t 1), none, 0⟩,
   ⟨some 18, .mv (.t 2), none, 0⟩,
   ⟨some 19, .call (.c (.fn (.func 47) [] [])) [.t 16, .t 17, .t 18], none, 7⟩,
   ⟨some 20, .ld 8 true (.t 3), none, 0⟩,
   ⟨some 21, .mv (.t 1), none, 0⟩,
   ⟨some 22, .mv (.t 2), none, 0⟩,
   ⟨some 23, .call (.c (.fn (.func 48) [] [])) [.t 20, .t 21, .t 22], none, 127⟩,
   ⟨some 24, .eq .bool false (.t 19) (.t 23), none, 255⟩,
   ⟨some 6, .mv (.t 24), none, 511⟩])
 (.ret))))⟩
theorem c1010 : coF Try.prog Try.f10 = some C1010 := by kernel_rfl
def A1010 : Ann := { keep := [0, 1, 2, 3, 6, 8, 15], live := [] }
def E1010 {Ω : Type} : Env Ω := econs 18 S16 (econs 46 S1044 (econs 47 S1045c (econs 48 S1046c (enil))))
theorem e1010 : GoodE Try.prog E1010 := GoodE.cons g16 (GoodE.cons g1044 (GoodE.cons g1045c (GoodE.cons g1046c (GoodE.nil))))
end Go.Sx.Pr
