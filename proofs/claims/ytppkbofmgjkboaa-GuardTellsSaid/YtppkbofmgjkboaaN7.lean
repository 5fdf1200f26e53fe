/- Pure contracts: functions of data, known by their results as data; nothing of the caller's memory changes. -/
import Derived.Test.YtppkbofmgjkboaaSxMem
import Derived.Test.YtppkbofmgjkboaaSxMem
import Derived.Test.YtppkbofmgjkboaaSxMem
import Derived.Test.YtppkbofmgjkboaaRows
import Derived.KernelRfl
set_option linter.all false
set_option linter.unusedVariables false
set_option linter.unusedSimpArgs false
set_option linter.unnecessarySimpa false
namespace Go.Sx

/-! ### results as data -/
 mutual
/-- Values without locs and without data behind them. -/
def flt0 : SV → Bool
  | .d (.v _) => true
  | .fn _ a b => flt0L a && flt0L b
  | .agg c => flt0L c
  | .tup c => flt0L c
  | _ => false
def flt0L : List SV → Bool
  | [] => true
  | x :: r => flt0 x && flt0L r
end
 mutual
/-- Values that point to boxes of such. -/
def dat1 (h : SH) : SV → Option SV
  | .d (.v x) => some (.d (.v x))
  | .ptr l o => match hget h l with
    | .cells _ c => bif flt0L c then some (.rc c o) else none
    | _ => none
  | .fn g a b => match dat1L h a, dat1L h b with
    | some a', some b' => some (.fn g a' b')
    | _, _ => none
  | .agg c => match dat1L h c with | some c' => some (.agg c') | none => none
  | _ => none
def dat1L (h : SH) : List SV → Option (List SV)
  | [] => some []
  | x :: r => match dat1 h x, dat1L h r with
    | some y, some s => some (y :: s)
    | _, _ => none
end
def dat0 (h : SH) : List (Value × SV) → Option (List SV)
  | [] => some []
  | (_, x) :: r => match dat0 h r, dat1 h x with
    | some s, some y => some (y :: s)
    | _, _ => none
section
variable {cx cx' : Cx} {w w' : World}
 mutual
theorem flt0_rep : ∀ (x : SV) (u : Value), flt0 x = true → SRep cx w x u → SRep cx' w' x u
  | .d (.v x), u, _, h => by simp only [SRep, DRep] at h ⊢; exact h
  | .d (.ints _ _), u, e, h | .d (.sl _ _ _), u, e, h => by simp [flt0] at e
  | .ptr _ _, u, e, h | .pe _ _ _, u, e, h | .rp _ _ _, u, e, h | .own _, u, e, h | .cs _ _ _ _ _, u, e, h | .mp _, u, e, h | .md _ _, u, e, h | .rc _ _, u, e, h | .top, u, e, h => by simp [flt0] at e
  | .fn g a b, u, e, h => by
      simp only [flt0, Bool.and_eq_true] at e
      simp only [SRep] at h ⊢
      obtain ⟨a', b', e1, h1, h2⟩ := h
      exact ⟨a', b', e1, flt0L_rep a a' e.1 h1, flt0L_rep b b' e.2 h2⟩
  | .agg c, u, e, h => by
      simp only [flt0] at e
      simp only [SRep] at h ⊢
      obtain ⟨c', e1, h1⟩ := h
      exact ⟨c', e1, flt0L_rep c c' e h1⟩
  | .tup c, u, e, h => by
      simp only [flt0] at e
      simp only [SRep] at h ⊢
      obtain ⟨c', e1, h1⟩ := h
      exact ⟨c', e1, flt0L_rep c c' e h1⟩
theorem flt0L_rep : ∀ (c : List SV) (c' : List Value), flt0L c = true → SRepL cx w c c' → SRepL cx' w' c c'
  | [], [], _, _ => by simp only [SRepL]
  | x :: r, v :: vs, e, h => by
      simp only [flt0L, Bool.and_eq_true] at e
      simp only [SRepL] at h ⊢
      exact ⟨flt0_rep x v e.1 h.1, flt0L_rep r vs e.2 h.2⟩
  | [], _ :: _, _, h => by simp [SRepL] at h
  | _ :: _, [], _, h => by simp [SRepL] at h
end
end
section
variable {cxq cx' : Cx} {H : SH} {w : World}
 mutual
theorem dat1_rep (hG : Gam cxq H w) (hO : ∀ l, liv cxq H l → cx'.fz (cxq.th l)) : ∀ (x y : SV) (u : Value), dat1 H x = some y → SRep cxq w x u → SRep cx' w y u
  | .d (.v x), y, u, e, h => by simp only [dat1, Option.some.injEq] at e; subst e; simp only [SRep, DRep] at h ⊢; exact h
  | .d (.ints _ _), y, u, e, h | .d (.sl _ _ _), y, u, e, h => by simp [dat1] at e
  | .pe _ _ _, y, u, e, h | .rp _ _ _, y, u, e, h | .own _, y, u, e, h | .cs _ _ _ _ _, y, u, e, h | .mp _, y, u, e, h | .md _ _, y, u, e, h | .rc _ _, y, u, e, h | .tup _, y, u, e, h | .top, y, u, e, h => by simp [dat1] at e
  | .ptr l o, y, u, e, h => by
      simp only [dat1] at e
      have hobj := hG.obj l
      simp only [SRep] at h
      split at e
      · rename_i t c hl
        obtain ⟨hf, e⟩ := cond_some e
        simp only [Option.some.injEq] at e; subst e
        rw [hl] at hobj
        obtain ⟨t', c', hb, hc⟩ := hobj
        simp only [SRep]
        refine ⟨cxq.th l, c', h.2, hO l (by simp [liv, hl]), fun j v hv => ?_, flt0L_rep c c' hf hc⟩
        simp [World.cell?, ad, hb, hv]
      · cases e
  | .fn g p q, y, u, e, h => by
      simp only [dat1] at e
      split at e
      · rename_i p' q' hp hq
        simp only [Option.some.injEq] at e; subst e
        simp only [SRep] at h ⊢
        obtain ⟨a', b', e1, h1, h2⟩ := h
        exact ⟨a', b', e1, dat1L_rep hG hO p p' a' hp h1, dat1L_rep hG hO q q' b' hq h2⟩
      · cases e
  | .agg c, y, u, e, h => by
      simp only [dat1] at e
      split at e
      · rename_i c' hc
        simp only [Option.some.injEq] at e; subst e
        simp only [SRep] at h ⊢
        obtain ⟨v, e1, h1⟩ := h
        exact ⟨v, e1, dat1L_rep hG hO c c' v hc h1⟩
      · cases e
theorem dat1L_rep (hG : Gam cxq H w) (hO : ∀ l, liv cxq H l → cx'.fz (cxq.th l)) : ∀ (x y : List SV) (u : List Value), dat1L H x = some y → SRepL cxq w x u → SRepL cx' w y u
  | [], y, u, e, h => by simp only [dat1L, Option.some.injEq] at e; subst e; cases u with
    | nil => simp only [SRepL]
    | cons => simp [SRepL] at h
  | x :: r, y, u, e, h => by
      simp only [dat1L] at e
      split at e
      · rename_i y' s' h1 h2
        simp only [Option.some.injEq] at e; subst e
        cases u with
        | nil => simp [SRepL] at h
        | cons v vs =>
          simp only [SRepL] at h ⊢
          exact ⟨dat1_rep hG hO x y' v h1 h.1, dat1L_rep hG hO r s' vs h2 h.2⟩
      · cases e
end
theorem dat0_rep (hG : Gam cxq H w) (hO : ∀ l, liv cxq H l → cx'.fz (cxq.th l)) : ∀ {es : List (Value × SV)} {xs : List SV} {l : List (Value × Value)}, dat0 H es = some xs → SRepE cxq w es l → l = (es.map (·.1)).zip (l.map (·.2)) ∧ SRepL cx' w xs (l.map (·.2)) ∧ (l.map (·.2)).length = (es.map (·.1)).length
  | [], xs, [], e, _ => by simp only [dat0, Option.some.injEq] at e; subst e; simp [SRepL]
  | [], xs, _ :: _, e, h => by simp [SRepE] at h
  | (q, x) :: r, xs, [], e, h => by simp [SRepE] at h
  | (q, x) :: r, xs, (q', v) :: l, e, h => by
      simp only [dat0] at e
      split at e
      · rename_i s y hs hy
        simp only [Option.some.injEq] at e; subst e
        simp only [SRepE] at h
        obtain ⟨rfl, h1, h2⟩ := h
        obtain ⟨k1, k2, k3⟩ := dat0_rep hG hO hs h2
        refine ⟨?_, ?_, by simpa using k3⟩
        · simp only [List.map_cons, List.zip_cons_cons, List.cons.injEq, true_and]; exact k1
        · simp only [List.map_cons, SRepL]; exact ⟨dat1_rep hG hO x y v hy h1, k2⟩
      · cases e
end
 mutual
/-- A result as data: rows that the callee made become data; a: data of the arguments may stand in it. -/
def dat (a : Bool) (h : SH) : SV → Option SV
  | .d (.v x) => some (.d (.v x))
  | .d x => bif a then some (.d x) else none
  | .own l => match hget h l with
    | .rowi _ k xs => some (.d (.ints k xs))
    | .row _ sz n f => bif a then some (.d (.sl sz n f)) else none
    | _ => none
  | .fn g x y => match datL a h x, datL a h y with
    | some x', some y' => some (.fn g x' y')
    | _, _ => none
  | .agg c => match datL a h c with | some c' => some (.agg c') | none => none
  | .tup c => match datL a h c with | some c' => some (.tup c') | none => none
  | .top => some .top
  | .mp l => match hget h l with
    | .maps es => match dat0 h es with | some xs => some (.md (es.map (·.1)) xs) | none => none
    | _ => none
  | _ => none
def datL (a : Bool) (h : SH) : List SV → Option (List SV)
  | [] => some []
  | x :: r => match dat a h x, datL a h r with
    | some y, some s => some (y :: s)
    | _, _ => none
end

section
variable {a : Bool} {cxq cx' : Cx} {H : SH} {w : World}
 mutual
theorem dat_rep (hG : Gam cxq H w) (hA : a = true → ∀ b, cxq.fz b → cx'.fz b) (hO : ∀ l, liv cxq H l → cx'.fz (cxq.th l)) : ∀ (x y : SV) (u : Value), dat a H x = some y → SRep cxq w x u → SRep cx' w y u
  | .d (.v x), y, u, e, h => by simp only [dat, Option.some.injEq] at e; subst e; simp only [SRep, DRep] at h ⊢; exact h
  | .d (.ints k l), y, u, e, h => by
      simp only [dat] at e
      cases ha : a with
      | false => rw [ha] at e; cases e
      | true =>
        rw [ha] at e; simp only [cond_true, Option.some.injEq] at e; subst e
        simp only [SRep] at h ⊢
        exact DRep.mono (hA ha) (fun _ _ => rfl) _ _ h
  | .d (.sl sz n f), y, u, e, h => by
      simp only [dat] at e
      cases ha : a with
      | false => rw [ha] at e; cases e
      | true =>
        rw [ha] at e; simp only [cond_true, Option.some.injEq] at e; subst e
        simp only [SRep] at h ⊢
        exact DRep.mono (hA ha) (fun _ _ => rfl) _ _ h
  | .own l, y, u, e, h => by
      simp only [dat] at e
      have hobj := hG.obj l
      simp only [SRep] at h
      split at e
      · rename_i t k xs hl
        simp only [Option.some.injEq] at e; subst e
        rw [hl] at hobj
        obtain ⟨hln, hrs, hcp, hz, hh⟩ := hobj
        simp only [SRep, DRep]
        refine ⟨_, _, by rw [← hln]; exact h.2, hcp, fun hn => ?_⟩
        have hpos : 0 < xs.length := List.length_pos_iff.2 hn
        cases hnl : cxq.nl l with
        | true => have := hz hnl; omega
        | false =>
          obtain ⟨t', c', hb, hs, hc⟩ := hh hnl
          refine ⟨cxq.th l, 0, by simp, hO l (by simp [liv, hl, hnl]), fun i hi => ?_⟩
          simp only [World.cell?, ad, hb, Nat.zero_add]
          exact hc i hi
      · rename_i t sz n f hl
        cases ha : a with
        | false => rw [ha] at e; cases e
        | true =>
          rw [ha] at e; simp only [cond_true, Option.some.injEq] at e; subst e
          rw [hl] at hobj
          obtain ⟨hln, hrs, hcp, hz, hh⟩ := hobj
          simp only [SRep, DRep]
          refine ⟨_, _, by rw [← hln]; exact h.2, hcp, fun hn => ?_⟩
          cases hnl : cxq.nl l with
          | true => have := hz hnl; omega
          | false =>
            obtain ⟨t', c', hb, hs, hc⟩ := hh hnl
            refine ⟨cxq.th l, 0, by simp, hO l (by simp [liv, hl, hnl]), fun i hi j hj => ?_⟩
            obtain ⟨x, hx, hd⟩ := hc i hi j hj
            exact ⟨x, by simp [World.cell?, ad, hb, hx], DRep.mono (hA ha) (fun _ _ => rfl) _ _ hd⟩
      · cases e
  | .fn g p q, y, u, e, h => by
      simp only [dat] at e
      split at e
      · rename_i p' q' hp hq
        simp only [Option.some.injEq] at e; subst e
        simp only [SRep] at h ⊢
        obtain ⟨a', b', e1, h1, h2⟩ := h
        exact ⟨a', b', e1, datL_rep hG hA hO p p' a' hp h1, datL_rep hG hA hO q q' b' hq h2⟩
      · cases e
  | .agg c, y, u, e, h => by
      simp only [dat] at e
      split at e
      · rename_i c' hc
        simp only [Option.some.injEq] at e; subst e
        simp only [SRep] at h ⊢
        obtain ⟨v, e1, h1⟩ := h
        exact ⟨v, e1, datL_rep hG hA hO c c' v hc h1⟩
      · cases e
  | .tup c, y, u, e, h => by
      simp only [dat] at e
      split at e
      · rename_i c' hc
        simp only [Option.some.injEq] at e; subst e
        simp only [SRep] at h ⊢
        obtain ⟨v, e1, h1⟩ := h
        exact ⟨v, e1, datL_rep hG hA hO c c' v hc h1⟩
      · cases e
  | .top, y, u, e, h => by simp only [dat, Option.some.injEq] at e; subst e; simp only [SRep]
  | .ptr _ _, y, u, e, h | .pe _ _ _, y, u, e, h | .rp _ _ _, y, u, e, h | .cs _ _ _ _ _, y, u, e, h | .md _ _, y, u, e, h | .rc _ _, y, u, e, h => by simp [dat] at e
  | .mp l, y, u, e, h => by
      simp only [dat] at e
      have hobj := hG.obj l
      simp only [SRep] at h
      split at e
      · rename_i es hl
        split at e
        · rename_i xs hx
          simp only [Option.some.injEq] at e; subst e
          rw [hl] at hobj
          obtain ⟨el, c, hb, hent⟩ := hobj
          obtain ⟨k1, k2, k3⟩ := dat0_rep (cx' := cx') hG hO hx hent
          simp only [SRep]
          exact ⟨_, el, c, _, h.2, hO l (by simp [liv, hl]), hb, k1, k3, k2⟩
        · cases e
      · cases e
theorem datL_rep (hG : Gam cxq H w) (hA : a = true → ∀ b, cxq.fz b → cx'.fz b) (hO : ∀ l, liv cxq H l → cx'.fz (cxq.th l)) : ∀ (x y : List SV) (u : List Value), datL a H x = some y → SRepL cxq w x u → SRepL cx' w y u
  | [], y, u, e, h => by simp only [datL, Option.some.injEq] at e; subst e; cases u with
    | nil => simp only [SRepL]
    | cons => simp [SRepL] at h
  | x :: r, y, u, e, h => by
      simp only [datL] at e
      split at e
      · rename_i y' s' h1 h2
        simp only [Option.some.injEq] at e; subst e
        cases u with
        | nil => simp [SRepL] at h
        | cons v vs =>
          simp only [SRepL] at h ⊢
          exact ⟨dat_rep hG hA hO x y' v h1 h.1, datL_rep hG hA hO r s' vs h2 h.2⟩
      · cases e
end
end

/-- What is new is data from now on. -/
def cxN (cx : Cx) (w w' : World) : Cx := { cx with fz := fun b => cx.fz b ∨ (w.heap.size ≤ b ∧ b < w'.heap.size) }

theorem fresh_data {cx : Cx} {h : SH} {w w' : World} (hg : Gam cx h w) (hsame : ∀ b, b < w.heap.size → w'.heap[b]? = w.heap[b]?) (hsz : w.heap.size ≤ w'.heap.size) (hio : Io w w') : Grow0 cx w (cxN cx w w') w' ∧ Gam (cxN cx w w') h w' := by
  have gr2 : Grow0 cx w (cxN cx w w') w' := ⟨fun _ hb => .inl hb, fun b hb => hsame b (hg.fzlt b hb), hsz, fun l hl _ => ⟨hl, rfl, rfl, rfl, rfl, rfl⟩, rfl, hio⟩
  have hlv : ∀ l, liv (cxN cx w w') h l → liv cx h l := fun l hl => hl
  refine ⟨gr2, ⟨hg.n, fun m => ?_, fun m hm => Nat.lt_of_lt_of_le (hg.lt m (hlv m hm)) hsz, fun m hm hhd => ?_, fun a b ha hb => hg.inj a b (hlv a ha) (hlv b hb), fun b hb => ?_, fun b hb hfr => ?_⟩⟩
  · rcases Nat.lt_or_ge m h.length with hm | hm
    · exact ORep.keep (h := h) gr2 (hg.n ▸ hm) _ rfl (fun hv => hsame _ (hg.lt m hv)) (hg.obj m)
    · rw [hget_ge hm]; trivial
  · have h1 := hg.lt m (hlv m hm)
    rcases hhd with (h2 | ⟨h2, h3⟩) | h2
    · exact hg.own m (hlv m hm) (.inl h2)
    · simp only [cxN] at h2; omega
    · exact hg.own m (hlv m hm) (.inr h2)
  · rcases hb with (h2 | ⟨h2, h3⟩) | h2
    · exact Nat.lt_of_lt_of_le (hg.fzlt b (.inl h2)) hsz
    · exact h3
    · exact Nat.lt_of_lt_of_le (hg.fzlt b (.inr h2)) hsz
  · rcases hb with h2 | ⟨h2, h3⟩
    · exact hg.dj b h2 hfr
    · have := hg.fzlt b (.inr hfr); omega

/-! ### arguments: data -/
inductive PT where
  | any
  | drop
  | g (cts : List CT)
  | s (k : IntKind)

 mutual
def nlc : SV → Bool
  | .d _ | .rp _ _ _ | .top => true
  | .fn _ a b => nlcL a && nlcL b
  | .agg c | .tup c | .md _ c | .rc c _ => nlcL c
  | _ => false
def nlcL : List SV → Bool
  | [] => true
  | x :: r => nlc x && nlcL r
end

def nrmP : PT → SV → Option SV
  | .any, x => bif nlc x then some x else none
  | .drop, _ => some .top
  | .g cs, .agg c => match nrmC cs c with | some c' => some (.agg c') | none => none
  | .s k, .d (.ints k' l) => bif kEq k k' then some (.d (.ints k l)) else none
  | .s k, .d (.v (.slice none 0 0)) => some (.d (.ints k []))
  | .s k, .d (.v (.slice (some _) 0 _)) => some (.d (.ints k []))
  | _, _ => none
def nrmPs : List PT → List SV → Option (List SV)
  | [], [] => some []
  | t :: ts, x :: r => match nrmP t x, nrmPs ts r with
    | some y, some s => some (y :: s)
    | _, _ => none
  | _, _ => none

section
variable {cx cx' : Cx} {w : World}
 mutual
theorem nlc_ok (hf : cx'.fz = cx.fz) : ∀ (x : SV) (u : Value), nlc x = true → SRep cx w x u → SRep cx' w x u
  | .d x, u, _, h => by simp only [SRep] at h ⊢; rw [hf]; exact h
  | .rp sz f o, u, _, h => by simp only [SRep] at h ⊢; rw [hf]; exact h
  | .top, u, _, _ => by simp only [SRep]
  | .fn g a b, u, hn, h => by
      simp only [nlc, Bool.and_eq_true] at hn
      simp only [SRep] at h ⊢
      obtain ⟨a', b', e, h1, h2⟩ := h
      exact ⟨a', b', e, nlcL_ok hf a a' hn.1 h1, nlcL_ok hf b b' hn.2 h2⟩
  | .agg c, u, hn, h => by
      simp only [nlc] at hn
      simp only [SRep] at h ⊢
      obtain ⟨c', e, h1⟩ := h
      exact ⟨c', e, nlcL_ok hf c c' hn h1⟩
  | .tup c, u, hn, h => by
      simp only [nlc] at hn
      simp only [SRep] at h ⊢
      obtain ⟨c', e, h1⟩ := h
      exact ⟨c', e, nlcL_ok hf c c' hn h1⟩
  | .md ks c, u, hn, h => by
      simp only [nlc] at hn
      simp only [SRep] at h ⊢
      obtain ⟨b, e, c', vs, eu, hb, hw, hl, hk, hc⟩ := h
      exact ⟨b, e, c', vs, eu, by rw [hf]; exact hb, hw, hl, hk, nlcL_ok hf c vs hn hc⟩
  | .ptr _ _, u, hn, _ | .pe _ _ _, u, hn, _ | .own _, u, hn, _ | .cs _ _ _ _ _, u, hn, _ | .mp _, u, hn, _ => by simp [nlc] at hn
  | .rc c o, u, hn, h => by
      simp only [nlc] at hn
      simp only [SRep] at h ⊢
      obtain ⟨b, vs, eu, hb, hw, hc⟩ := h
      exact ⟨b, vs, eu, by rw [hf]; exact hb, hw, nlcL_ok hf c vs hn hc⟩
theorem nlcL_ok (hf : cx'.fz = cx.fz) : ∀ (x : List SV) (u : List Value), nlcL x = true → SRepL cx w x u → SRepL cx' w x u
  | [], [], _, _ => by simp only [SRepL]
  | x :: r, v :: vs, hn, h => by
      simp only [nlcL, Bool.and_eq_true] at hn
      simp only [SRepL] at h ⊢
      exact ⟨nlc_ok hf x v hn.1 h.1, nlcL_ok hf r vs hn.2 h.2⟩
  | [], _ :: _, _, h => by simp [SRepL] at h
  | _ :: _, [], _, h => by simp [SRepL] at h
end

theorem nrmP_ok (hf : cx'.fz = cx.fz) {t : PT} {x y : SV} {u : Value} (e : nrmP t x = some y) (h : SRep cx w x u) : SRep cx' w y u := by
  unfold nrmP at e
  split at e
  · obtain ⟨hn, e⟩ := cond_some e
    simp only [Option.some.injEq] at e; subst e
    exact nlc_ok hf _ _ hn h
  · simp only [Option.some.injEq] at e; subst e
    simp only [SRep]
  · split at e
    · rename_i c' hc
      simp only [Option.some.injEq] at e; subst e
      simp only [SRep] at h ⊢
      obtain ⟨v, e1, h1⟩ := h
      exact ⟨v, e1, nrmC_ok hf hc h1⟩
    · cases e
  · obtain ⟨hk, e'⟩ := cond_some e
    have := kEq_eq hk; subst this
    simp only [Option.some.injEq] at e'; subst e'
    simp only [SRep] at h ⊢; rw [hf]; exact h
  · simp only [Option.some.injEq] at e; subst e
    simp only [SRep, DRep] at h ⊢
    exact ⟨none, 0, h.1, Nat.le_refl _, fun hn => absurd rfl hn⟩
  · rename_i b c
    simp only [Option.some.injEq] at e; subst e
    simp only [SRep, DRep] at h ⊢
    exact ⟨_, _, h.1, Nat.zero_le _, fun hn => absurd rfl hn⟩
  · cases e
theorem nrmPs_ok (hf : cx'.fz = cx.fz) : ∀ {ts : List PT} {x y : List SV} {u : List Value}, nrmPs ts x = some y → SRepL cx w x u → SRepL cx' w y u
  | [], [], y, u, e, h => by
    simp only [nrmPs, Option.some.injEq] at e; subst e
    cases u with
    | nil => simp only [SRepL]
    | cons => simp [SRepL] at h
  | t :: ts, x :: r, y, u, e, h => by
    simp only [nrmPs] at e
    split at e
    · rename_i y' s' h1 h2
      simp only [Option.some.injEq] at e; subst e
      cases u with
      | nil => simp [SRepL] at h
      | cons v vs =>
        simp only [SRepL] at h ⊢
        exact ⟨nrmP_ok hf h1 h.1, nrmPs_ok hf h2 h.2⟩
    · cases e
  | [], _ :: _, _, _, e, _ => by simp [nrmPs] at e
  | _ :: _, [], _, _, e, _ => by simp [nrmPs] at e
end

/-! ### the contracts -/
def altsP {Ω : Type} (k : SV → List Nat → List Nat → SH → Option Ω) (h : SH) : List (Bool × SV) → Option Ω
  | [] => none
  | (g, r) :: rest => br g (k r [] [] h) (altsP k h rest)
def firstP : List (Bool × SV) → Option SV
  | [] => none
  | (g, r) :: rest => bif g then some r else firstP rest
theorem altsP_first {Ω : Type} {k : SV → List Nat → List Nat → SH → Option Ω} {h : SH} {out : Ω} : ∀ {L : List (Bool × SV)}, altsP k h L = some out → ∃ r, firstP L = some r ∧ k r [] [] h = some out
  | [], e => by cases e
  | (g, r) :: rest, e => by
    simp only [altsP] at e
    rcases br_some e with ⟨rfl, e⟩ | ⟨rfl, e⟩
    · exact ⟨r, rfl, e⟩
    · obtain ⟨r', h1, h2⟩ := altsP_first e
      exact ⟨r', h1, h2⟩
theorem altsP_of {Ω : Type} {k : SV → List Nat → List Nat → SH → Option Ω} {h : SH} : ∀ {L : List (Bool × SV)} {r : SV}, firstP L = some r → altsP k h L = k r [] [] h
  | [], r, e => by cases e
  | (g, r') :: rest, r, e => by
    simp only [firstP] at e
    cases g with
    | true => simp only [cond_true, Option.some.injEq] at e; subst e; rfl
    | false => exact altsP_of (L := rest) e

/-- A function of data, by its result as data. -/
def pureSpec (ts : List PT) (F : List SV → List (Bool × SV)) {Ω : Type} : Spec Ω := fun args h k =>
  match nrmPs ts args with
  | some az => altsP k h (F az)
  | none => none
theorem pure_par {ts : List PT} {F : List SV → List (Bool × SV)} {Ω Ω' : Type} : SpecPar (pureSpec ts F (Ω := Ω)) (pureSpec ts F (Ω := Ω')) := by
  intro args h k out hs
  unfold pureSpec at hs ⊢
  split at hs
  · obtain ⟨r, h1, h2⟩ := altsP_first hs
    exact ⟨_, _, _, _, h2, fun k' => altsP_of h1⟩
  · cases hs
theorem enter_fn {P : Program} {g : Nat} {fn : Func} (hf : P.funcs[g]? = some fn) (hname : (fn.name == "runtime.NumGoroutine") = false) {C : CF} (hC : coF P fn = some C) : ∀ (args : Array Value) (w : World), (callFunc g args).run P w = .ok (.enter g args) w := by
  have hbody : ∃ c, fn.body = some c := by
    unfold coF at hC
    split at hC
    · rename_i c hb; exact ⟨c, hb⟩
    · cases hC
  obtain ⟨c, hb⟩ := hbody
  intro args w
  have h1 : fn.name ≠ "runtime.NumGoroutine" := by simpa using hname
  simp [callFunc, hf, h1, hb]

theorem pureGoodL {P : Program} {g : Nat} {fn : Func} (hf : P.funcs[g]? = some fn) (hname : (fn.name == "runtime.NumGoroutine") = false) {C : CF} (hC : coF P fn = some C) {A : Ann} {e : {Ω : Type} → Env Ω} (he : GoodE P e) (hmix : P.follows .mixedOrders = true)
    {ts : List PT} {F : List SV → List (Bool × SV)}
    (hrun : ∀ az r, firstP (F az) = some r → ∃ bz r0 y H, (∀ cx w u, SRepL cx w az u → SRepL cx w bz u) ∧ sxFn (e (Ω := SV × SH)) A C bz [] (fun r h => some (r, h)) = some (r0, H) ∧ dat true H r0 = some y ∧ ∀ cx w u, SRep cx w y u → SRep cx w r u) :
    Good1 P g (fun {Ω} => pureSpec ts F (Ω := Ω)) := by
  refine ⟨fun Ω => ⟨enter_fn hf hname hC, fun args h k out hs => ?_⟩, fun Ω Ω' => pure_par⟩
  unfold pureSpec at hs
  split at hs
  · rename_i az hl
    obtain ⟨r, hF, hk⟩ := altsP_first hs
    obtain ⟨bz, r0, y, H, hbz, hrun, hdat, hle⟩ := hrun az r hF
    refine ⟨_, [], [], _, hk, ⟨Nat.le_refl _, fun _ _ _ => rfl⟩, fun cx w vals hg ha => ?_⟩
    have hfz : (cxL w cx.fz).fz = cx.fz := funext fun b => propext ⟨And.right, fun q => ⟨hg.fzlt b (.inl q), q⟩⟩
    refine (fn_calls (he.ok _) hmix hf hC hrun (cxL w cx.fz) w vals (gamL w _) (hbz _ _ _ (nrmPs_ok hfz hl ha))).mono fun e w' ⟨v, cxq, e1, gr, hr, hG⟩ => ?_
    have hsame : ∀ b, b < w.heap.size → w'.heap[b]? = w.heap[b]? := fun b hb => gr.same b (cxL_all hb)
    obtain ⟨k1, k2⟩ := fresh_data hg hsame gr.size gr.io
    have nm : (fun l => nmem l []) = fun _ => false := funext fun l => by simp [nmem]
    rw [nm]
    refine ⟨v, cxN cx w w', e1, k1, hle _ _ _ (dat_rep hG (fun _ b hb => ?_) (fun l hl => ?_) _ _ _ hdat hr), k2⟩
    · rcases Nat.lt_or_ge b w.heap.size with h1 | h1
      · refine .inl ?_
        have h2 := hG.dj b hb
        rw [gr.fr] at h2
        rcases Classical.em (cx.fz b) with h3 | h3
        · exact h3
        · exact absurd ⟨h1, h3⟩ h2
      · exact .inr ⟨h1, hG.fzlt b (.inl hb)⟩
    · refine .inr ⟨?_, hG.lt l hl⟩
      rcases Nat.lt_or_ge (cxq.th l) w.heap.size with h1 | h1
      · exact absurd (gr.hd _ (cxL_all h1)) (hG.own l hl)
      · exact h1
  · cases hs

/-! ### results that say less: nil lists as empty lists -/
theorem rep_nil {cx : Cx} {w : World} {k : IntKind} {u : Value} (h : SRep cx w (.d (.v (.slice none 0 0))) u) : SRep cx w (.d (.ints k [])) u := by
  simp only [SRep, DRep] at h ⊢
  exact ⟨none, 0, h.1, Nat.le_refl _, fun hn => absurd rfl hn⟩
end Go.Sx

namespace Go.Sx.Pr
open Go Go.Sx Go.Proofs
set_option maxRecDepth 100000
def K123_1 : CC := .seq (.reg false [⟨some 4, .mv (.c (.d (.v (.int .i64 (-1))))), none, 0⟩])
 (.ret)
def L123_2 : CC := .seq (.reg false [⟨some 9, .bin .lss (.t 8) (.t 7), none, 0⟩])
 (.seq (.cond 9 (.skip)
   (.exit 0))
 (.seq (.block 1 (.seq (.reg false [⟨some 10, .mv (.t 8), none, 0⟩,
     ⟨some 5, .mv (.t 10), none, 0⟩])
   (.seq (.reg false [⟨some 11, .mv (.t 1), none, 0⟩,
     ⟨some 12, .mv (.t 0), none, 0⟩,
     ⟨some 13, .mv (.t 5), none, 0⟩,
     ⟨some 14, .ixs 1 (.t 12) (.t 13), none, 0⟩,
     ⟨some 15, .ld 1 false (.t 14), none, 0⟩,
     ⟨some 16, .eq .int false (.t 11) (.t 15), none, 0⟩])
   (.cond 16 (.seq (.reg false [⟨some 17, .mv (.t 5), none, 0⟩,
       ⟨some 4, .mv (.t 17), none, 0⟩])
     (.ret))
     (.skip)))))
 (.reg false [⟨some 18, .bin .add (.t 8) (.c (.d (.v (.int .i64 1)))), none, 0⟩,
   ⟨some 8, .mv (.t 18), none, 0⟩])))
def K123_3 : CC := .reg false [⟨some 6, .mv (.t 0), none, 0⟩,
   ⟨some 7, .len (.t 6), none, 0⟩,
   ⟨some 8, .mv (.c (.d (.v (.int .i64 0)))), none, 0⟩]
def K123_4 : CC := .reg false [⟨some 4, .mv (.c (.d (.v (.int .i64 0)))), none, 0⟩]
/-- slices.Index[[]int,int] -/
def C123 : CF := ⟨2, [(4, none)],
 .seq K123_4 (.seq (.seq K123_3 (.block 0 (.loop L123_2))) K123_1)⟩
theorem c123 : coF Try.prog Try.f91 = some C123 := by kernel_rfl
def A123 : Ann := { keep := [0, 1, 4, 5, 7, 8, 9, 16], live := [(0, [0, 1, 7, 8])] }
def E123 {Ω : Type} : Env Ω := enil
theorem e123 : GoodE Try.prog E123 := GoodE.nil
def Z123_2 {Ω : Type} (it : Itr Ω) (K : SV → SH → Option Ω) : SE → SS → Option Ω := kblk 0 (kseq it E123 A123 K123_1 0 (kfn C123 K))
end Go.Sx.Pr

namespace Go.Sx.Pr
open Go Go.Sx Go.Proofs
set_option maxRecDepth 100000
end Go.Sx.Pr

/- Contract: the document's entry word of a free entry. -/
namespace Go.Sx.Pr
open Go Go.Sx Go.Proofs
set_option maxRecDepth 100000
def FEnt : List (List Int) → Option (Bool × SV × SH)
  | [[1], [-1], [0]] => some (true, U 1048576, [])
  | _ => none
def S69 {Ω : Type} : Spec Ω := conSpec [.i .u64, .i .i64, .i .i64] FEnt
end Go.Sx.Pr

namespace Go.Sx.Pr
open Go Go.Sx Go.Proofs
set_option maxRecDepth 100000
def K35_7 : CC := .seq (.reg false [⟨some 18, .mv (.t 3), none, 0⟩,
   ⟨some 19, .mv (.t 5), none, 0⟩,
   ⟨some 20, .ixs 3 (.t 18) (.t 19), none, 0⟩,
   ⟨some 21, .fa 0 (.t 20), none, 0⟩,
   ⟨some 22, .ld 1 false (.t 21), none, 0⟩,
   ⟨some 23, .eq .int false (.t 22) (.c (.d (.v (.int .i64 0)))), none, 0⟩,
   ⟨some 24, .mv (.t 23), none, 0⟩,
   ⟨some 25, .mv (.t 3), some (24, true), 0⟩,
   ⟨some 26, .mv (.t 5), some (24, true), 0⟩,
   ⟨some 27, .ixs 3 (.t 25) (.t 26), some (24, true), 0⟩,
   ⟨some 28, .fa 1 (.t 27), some (24, true), 0⟩,
   ⟨some 29, .ld 1 false (.t 28), some (24, true), 0⟩,
   ⟨some 30, .eq .int false (.t 29) (.c (.d (.v (.int .i64 0)))), some (24, true), 0⟩,
   ⟨some 31, .pick (.t 24) (.t 30) (.c (.d (.v (.bool false)))), none, 0⟩])
 (.cond 31 (.reg false [⟨some 6, .mv (.c (.d (.v (.int .u64 2)))), none, 0⟩])
   (.skip))
def A35 : Ann := { keep := [0, 1, 2, 3, 4, 5, 6, 9, 15, 31, 45, 51, 69], live := [(0, [1, 3, 4, 5])] }
def E35 {Ω : Type} : Env Ω := econs 41 S19 (econs 67 S20n (econs 75 S69 (enil)))
end Go.Sx.Pr

/- Contract: the document's initial words. -/
namespace Go.Sx.Pr
open Go Go.Sx Go.Proofs
set_option maxRecDepth 100000

abbrev H35 (n : Nat) (sp : Nat → Nat → Int) (out : List Int) (a b c d e f g l : Int) : SH := [CFG a b c d e f g l, .dead, .dead, .dead, .row 107 3 n (fun i j => .v (.int .i64 (sp i j))), .dead, .rowi 27 .u64 out]
abbrev T35 (i : Int) (r : List (Nat × SV)) : List (Nat × SV) := (1, .ptr 0 0) :: (3, .own 4) :: (4, .own 6) :: (5, I i) :: r
theorem f7 {Ω : Type} (it : Itr Ω) (K : SE → SS → Option Ω) (n : Nat) (sp : Nat → Nat → Int) (out : List Int) (i w : Int) (a b c d e f g l : Int) :
    sxI it E35 A35 K35_7 1 ⟨T35 i [(6, U w)], H35 n sp out a b c d e f g l⟩ K =
    br (inB i n) (br (sp (Int.toNat i) 0 == 0) (br (inB i n) (br (sp (Int.toNat i) 1 == 0) (K .norm (SS.mk [(1, .ptr 0 0), (3, .own 4), (4, .own 6), (5, I i), (6, U 2)] [.cells 36 [I a, I b, I c, I d, I e, I f, I g, U l], .dead, .dead, .dead, .row 107 3 n fun i j => DV.v (Value.int .i64 (sp i j)), .dead, .rowi 27 .u64 out])) (K .norm (SS.mk [(1, .ptr 0 0), (3, .own 4), (4, .own 6), (5, I i), (6, U w)] [.cells 36 [I a, I b, I c, I d, I e, I f, I g, U l], .dead, .dead, .dead, .row 107 3 n fun i j => DV.v (Value.int .i64 (sp i j)), .dead, .rowi 27 .u64 out]))) none) (K .norm (SS.mk [(1, .ptr 0 0), (3, .own 4), (4, .own 6), (5, I i), (6, U w)] [.cells 36 [I a, I b, I c, I d, I e, I f, I g, U l], .dead, .dead, .dead, .row 107 3 n fun i j => DV.v (Value.int .i64 (sp i j)), .dead, .rowi 27 .u64 out]))) none := by kernel_rfl
section
variable {Ω : Type} (it : Itr Ω) (K : SE → SS → Option Ω) (n : Nat) (sp : Nat → Nat → Int) (out : List Int) (i w : Int) (a b c d e f g l : Int)
end

end Go.Sx.Pr

namespace Go.Sx.Pr
open Go Go.Sx Go.Proofs
set_option maxRecDepth 100000
def K82_1 : CC := .seq (.reg false [⟨some 4, .mv (.c (.d (.v (.int .i64 (-1))))), none, 0⟩])
 (.ret)
def L82_2 : CC := .seq (.seq (.reg false [⟨some 12, .mv (.t 6), none, 0⟩,
   ⟨some 13, .mv (.t 5), none, 0⟩,
   ⟨some 14, .len (.t 13), none, 0⟩,
   ⟨some 15, .bin .lss (.t 12) (.t 14), none, 0⟩])
 (.cond 15 (.skip)
   (.exit 0)))
 (.seq (.block 1 (.seq (.reg true [⟨some 18, .mv (.t 5), none, 0⟩,
     ⟨some 19, .mv (.t 6), none, 0⟩,
     ⟨some 20, .ixs 3 (.t 18) (.t 19), none, 3⟩,
     ⟨some 21, .ld 3 true (.t 20), none, 7⟩,
     ⟨some 22, .ld 3 true (.t 3), none, 0⟩,
     ⟨some 23, .eq (.cons .int 0 1 false (.cons .int 1 1 false (.cons .int 2 1 false .nil))) false (.t 21) (.t 22), none, 31⟩])
   (.cond 23 (.seq (.reg false [⟨some 24, .mv (.t 6), none, 0⟩,
       ⟨some 4, .mv (.t 24), none, 0⟩])
     (.ret))
     (.skip))))
 (.reg false [⟨some 16, .mv (.t 6), none, 0⟩,
   ⟨some 17, .bin .add (.t 16) (.c (.d (.v (.int .i64 1)))), none, 0⟩,
   ⟨some 6, .mv (.t 17), none, 0⟩]))
def K82_3 : CC := .reg false [⟨some 6, .mv (.c (.d (.v (.int .i64 0)))), none, 0⟩]
def K82_4 : CC := .reg false [⟨some 10, .ld 8 true (.t 2), none, 0⟩,
   ⟨some 11, .call (.c (.fn (.func 67) [] [])) [.t 10], none, 0⟩,
   ⟨some 5, .mv (.t 11), none, 0⟩]
def K82_5 : CC := .seq (.reg false [⟨some 7, .ld 8 true (.t 2), none, 0⟩,
   ⟨some 8, .call (.c (.fn (.func 41) [] [])) [.t 7], none, 0⟩,
   ⟨some 9, .eq .int true (.t 8) (.c (.d (.v (.int .i64 0)))), none, 0⟩])
 (.cond 9 (.seq (.reg false [⟨some 4, .mv (.c (.d (.v (.int .i64 (-1))))), none, 0⟩])
   (.ret))
   (.skip))
def K82_6 : CC := .reg false [⟨some 2, .box 36 8 (.t 0), none, 0⟩,
   ⟨some 3, .box 107 3 (.t 1), none, 0⟩,
   ⟨some 4, .mv (.c (.d (.v (.int .i64 0)))), none, 0⟩]
/-- coatcheck/coatcheckref02.At -/
def C82 : CF := ⟨2, [(4, none)],
 .seq K82_6 (.seq K82_5 (.seq K82_4 (.seq (.seq K82_3 (.block 0 (.loop L82_2))) K82_1)))⟩
theorem c82 : coF Try.prog Try.f68 = some C82 := by kernel_rfl
def A82 : Ann := { keep := [0, 1, 2, 3, 4, 5, 6, 9, 15, 23], live := [(0, [3, 5, 6])] }
def E82 {Ω : Type} : Env Ω := econs 41 S19 (econs 67 S20n (enil))
theorem e82 : GoodE Try.prog E82 := GoodE.cons g19 (GoodE.cons g20n (GoodE.nil))
def Z82_2 {Ω : Type} (it : Itr Ω) (K : SV → SH → Option Ω) : SE → SS → Option Ω := kblk 0 (kseq it E82 A82 K82_1 0 (kfn C82 K))
end Go.Sx.Pr

/- Contract: the document's address of a word. -/
namespace Go.Sx.Pr
open Go Go.Sx Go.Proofs
set_option maxRecDepth 100000

abbrev S82s (n : Nat) (sp : Nat → Nat → Int) (i k x y : Int) (a b c d e f g l : Int) : SS := ⟨[(3, .ptr 1 0), (5, .own 5), (6, I i)], [CFG a b c d e f g l, .cells 107 [I k, I x, I y], .dead, .dead, .dead, .row 107 3 n (fun i j => .v (.int .i64 (sp i j)))]⟩
theorem t82 {Ω : Type} (it : Itr Ω) (K : SV → SH → Option Ω) (a b c d e f g l k x y : Int) :
    sxFnI it E82 A82 C82 [cfgS a b c d e f g l, .agg [I k, I x, I y]] [] K =
    br (!chk a b c d e f g l == 0) (K (I (-1)) [.cells 36 [I a, I b, I c, I d, I e, I f, I g, U l], .cells 107 [I k, I x, I y]]) (br (chk a b c d e f g l == 0) (it [3, 5, 6] 6 (sxI it E82 A82 L82_2 0) (SS.mk [(3, .ptr 1 0), (5, .own 5), (6, I 0)] [.cells 36 [I a, I b, I c, I d, I e, I f, I g, U l], .cells 107 [I k, I x, I y], .dead, .dead, .dead, .row 107 3 (sizeN (Int.toNat a) (Int.toNat b) (Int.toNat c) (Int.toNat d) (Int.toNat e)) fun i j => DV.v (Value.int .i64 (spot (Int.toNat a) (Int.toNat b) (Int.toNat d) (Int.toNat e) i j))]) (Z82_2 it K)) none) := by kernel_rfl
theorem t82_1 {Ω : Type} (it : Itr Ω) (IT : SS → Option Ω) (K : SV → SH → Option Ω) (n : Nat) (sp : Nat → Nat → Int) (i k x y : Int) (a b c d e f g l : Int) :
    sxI it E82 A82 L82_2 0 (S82s n sp i k x y a b c d e f g l) (kitV [3, 5, 6] 6 IT (Z82_2 it K)) =
    br (decide (i < (↑n : Int))) (br (inB i n) (br (sp (Int.toNat i) 0 == k && (sp (Int.toNat i) 1 == x && (sp (Int.toNat i) 2 == y && true))) (K (I i) [.cells 36 [I a, I b, I c, I d, I e, I f, I g, U l], .cells 107 [I k, I x, I y], .dead, .dead, .dead, .row 107 3 n fun i j => DV.v (Value.int .i64 (sp i j))]) (IT (SS.mk [(3, .ptr 1 0), (5, .own 5), (6, I (IntKind.wrap .i64 (i + 1)))] [.cells 36 [I a, I b, I c, I d, I e, I f, I g, U l], .cells 107 [I k, I x, I y], .dead, .dead, .dead, .row 107 3 n fun i j => DV.v (Value.int .i64 (sp i j))]))) none) (K (I (-1)) [.cells 36 [I a, I b, I c, I d, I e, I f, I g, U l], .cells 107 [I k, I x, I y], .dead, .dead, .dead, .row 107 3 n fun i j => DV.v (Value.int .i64 (sp i j))]) := by kernel_rfl

/-- Where a place first stands among m from i on. -/
def srch (sp : Nat → Nat → Int) (k x y : Int) : Nat → Nat → Int
  | 0, _ => -1
  | m + 1, i => bif (sp i 0 == k) && ((sp i 1 == x) && (sp i 2 == y)) then (i : Int) else srch sp k x y m (i + 1)

/-- The address of a word. -/
def atV (a b c d e f g l k x y : Int) : Int :=
  bif chk a b c d e f g l == 0 then srch (spot a.toNat b.toNat d.toNat e.toNat) k x y (sizeN a.toNat b.toNat c.toNat d.toNat e.toNat) 0 else -1

theorem loop82 {n : Nat} {sp : Nat → Nat → Int} {k x y a b c d e f g l : Int} (hn : n ≤ 1000) : ∀ (m i N : Nat), n - i = m → i ≤ n → m < N →
    ∃ H, iter [3, 5, 6] 6 (sxI itB E82 A82 L82_2 0) N (S82s n sp i k x y a b c d e f g l) (Z82_2 itB KS) = some (I (srch sp k x y m i), H)
  | m, i, 0, _, _, h => by omega
  | m, i, N + 1, hm, hi, hN => by
    rw [iter_succ, t82_1]
    by_cases h : i < n
    · obtain ⟨m', rfl⟩ : ∃ m', m = m' + 1 := ⟨m - 1, by omega⟩
      have h1 : decide ((i : Int) < (n : Int)) = true := by simp; omega
      have h2 : inB (i : Int) n = true := by simp [inB]; omega
      rw [h1, br_t, h2, br_t, w64 (by omega) (by omega), Int.toNat_natCast]
      simp only [srch, Bool.and_true]
      cases h3 : ((sp i 0 == k) && ((sp i 1 == x) && (sp i 2 == y))) with
      | true => rw [br_t]; exact ⟨_, rfl⟩
      | false =>
        rw [br_f, cond_false]
        exact loop82 hn m' (i + 1) N (by omega) (by omega) (by omega)
    · have h1 : decide ((i : Int) < (n : Int)) = false := by simp; omega
      have : m = 0 := by omega
      subst this
      rw [h1, br_f]
      exact ⟨_, rfl⟩

theorem size_le {a b c d e f g l : Int} (h : chk a b c d e f g l = 0) : sizeN a.toNat b.toNat c.toNat d.toNat e.toNat ≤ 1000 := by
  obtain ⟨⟨a1, a2⟩, ⟨b1, b2⟩, ⟨c1, c2⟩, ⟨g1, g2⟩, ⟨e1, e2⟩, _⟩ := chk_zero h
  have hBC : b.toNat * c.toNat ≤ 8 * 16 := Nat.mul_le_mul (by omega) (by omega)
  have hP : (1 + d.toNat) * (b.toNat * c.toNat) ≤ 5 * 128 := Nat.mul_le_mul (by omega) (by omega)
  unfold sizeN; omega

theorem v82 (a b c d e f g l k x y : Int) : ∃ H, sxFn E82 A82 C82 [cfgS a b c d e f g l, .agg [I k, I x, I y]] [] KS = some (I (atV a b c d e f g l k x y), H) := by
  rw [← sxFnI_eq, t82]
  unfold atV
  by_cases h : chk a b c d e f g l = 0
  · have hc' : (chk a b c d e f g l == 0) = true := by simp [h]
    rw [hc', Bool.not_true, br_f, br_t, cond_true, itB_def]
    have hs := size_le h
    exact loop82 hs _ 0 big (by omega) (by omega) (by unfold big; omega)
  · have hc' : (chk a b c d e f g l == 0) = false := by simp [h]
    rw [hc', Bool.not_false, br_t, cond_false]
    exact ⟨_, rfl⟩

def FAt : List (List Int) → Option (Bool × SV × SH)
  | [[a, b, c, d, e, f, g, l], [k, x, y]] => some (true, I (atV a b c d e f g l k x y), [])
  | _ => none
theorem three {α : Type} {l : List α} (h : l.length = 3) : ∃ a b c, l = [a, b, c] := by
  match l, h with
  | [a, b, c], _ => exact ⟨a, b, c, rfl⟩
def S82 {Ω : Type} : Spec Ω := conSpec [.g cfgK, .g [.i64, .i64, .i64]] FAt
theorem g82 : Good1 Try.prog 68 S82 := conGood Try.func68 (by kernel_rfl) c82 e82 mix (A := A82) fun L r hr hl hF => by
  obtain ⟨p, q, rfl, hp, s, q2, rfl, hs, hq⟩ := hl
  simp only [lenAs] at hq
  subst hq
  obtain ⟨a, b, c, d, e, f, g, i, rfl⟩ := eight hp
  obtain ⟨k, x, y, rfl⟩ := three hs
  simp only [FAt, Option.some.injEq, Prod.mk.injEq, true_and] at hF
  obtain ⟨rfl, rfl⟩ := hF
  obtain ⟨H, hH⟩ := v82 a b c d e f g i k x y
  exact ⟨trivial, trivial, H, trim_none rfl _, hH⟩

/-! ### what the search comes to -/
theorem srch_hit {sp : Nat → Nat → Int} {k x y : Int} {t : Nat} (ht : sp t 0 = k ∧ sp t 1 = x ∧ sp t 2 = y) : ∀ (m i : Nat), i ≤ t → t < i + m → (∀ j, i ≤ j → j < t → ¬ (sp j 0 = k ∧ sp j 1 = x ∧ sp j 2 = y)) → srch sp k x y m i = (t : Int)
  | 0, i, h1, h2, _ => by omega
  | m + 1, i, h1, h2, h3 => by
    simp only [srch]
    rcases Nat.eq_or_lt_of_le h1 with h | h
    · subst h
      have : ((sp i 0 == k) && ((sp i 1 == x) && (sp i 2 == y))) = true := by simp [ht]
      rw [this, cond_true]
    · have hn := h3 i (Nat.le_refl _) h
      have : ((sp i 0 == k) && ((sp i 1 == x) && (sp i 2 == y))) = false := by
        rw [Bool.eq_false_iff]
        intro h4
        simp only [Bool.and_eq_true, beq_iff_eq] at h4
        exact hn h4
      rw [this, cond_false]
      exact srch_hit ht m (i + 1) h (by omega) fun j h5 h6 => h3 j (by omega) h6

theorem srch_miss {sp : Nat → Nat → Int} {k x y : Int} : ∀ (m i : Nat), (∀ j, i ≤ j → j < i + m → ¬ (sp j 0 = k ∧ sp j 1 = x ∧ sp j 2 = y)) → srch sp k x y m i = -1
  | 0, i, _ => rfl
  | m + 1, i, h3 => by
    simp only [srch]
    have hn := h3 i (Nat.le_refl _) (by omega)
    have : ((sp i 0 == k) && ((sp i 1 == x) && (sp i 2 == y))) = false := by
      rw [Bool.eq_false_iff]
      intro h4
      simp only [Bool.and_eq_true, beq_iff_eq] at h4
      exact hn h4
    rw [this, cond_false]
    exact srch_miss m (i + 1) fun j h5 h6 => h3 j (by omega) (by omega)
end Go.Sx.Pr

/- The document's addresses, closed forms. -/
namespace Go.Sx.Pr
open Go Go.Sx Go.Proofs
set_option maxRecDepth 100000

theorem spot_cases (A Bn D E j : Nat) :
    (j < 3 ∧ spot A Bn D E j 0 = 0 ∧ spot A Bn D E j 1 = (j : Int) ∧ spot A Bn D E j 2 = 0) ∨
    (3 ≤ j ∧ j < 3 + A ∧ spot A Bn D E j 0 = 1 ∧ spot A Bn D E j 1 = ((j - 3 : Nat) : Int) ∧ spot A Bn D E j 2 = 0) ∨
    (3 + A ≤ j ∧ j < 3 + A + Bn ∧ spot A Bn D E j 0 = 2 ∧ spot A Bn D E j 1 = ((j - (3 + A) : Nat) : Int) ∧ spot A Bn D E j 2 = 0) ∨
    (3 + A + Bn ≤ j ∧ j < 3 + A + Bn + 2 * E ∧ (j - (3 + A + Bn)) % 2 = 0 ∧ spot A Bn D E j 0 = 3 ∧ spot A Bn D E j 1 = (((j - (3 + A + Bn)) / 2 : Nat) : Int) ∧ spot A Bn D E j 2 = 0) ∨
    (3 + A + Bn ≤ j ∧ j < 3 + A + Bn + 2 * E ∧ (j - (3 + A + Bn)) % 2 = 1 ∧ spot A Bn D E j 0 = 4 ∧ spot A Bn D E j 1 = (((j - (3 + A + Bn)) / 2 : Nat) : Int) ∧ spot A Bn D E j 2 = 0) ∨
    (3 + A + Bn + 2 * E ≤ j ∧ (j - (3 + A + Bn + 2 * E)) % (1 + D) = 0 ∧ spot A Bn D E j 0 = 5 ∧ spot A Bn D E j 1 = (((j - (3 + A + Bn + 2 * E)) / (1 + D) : Nat) : Int) ∧ spot A Bn D E j 2 = 0) ∨
    (3 + A + Bn + 2 * E ≤ j ∧ (j - (3 + A + Bn + 2 * E)) % (1 + D) ≠ 0 ∧ spot A Bn D E j 0 = 6 ∧ spot A Bn D E j 1 = (((j - (3 + A + Bn + 2 * E)) / (1 + D) : Nat) : Int) ∧ spot A Bn D E j 2 = (((j - (3 + A + Bn + 2 * E)) % (1 + D) - 1 : Nat) : Int)) := by
  unfold spot spotL
  by_cases h1 : j < 3
  · rw [if_pos h1]; exact .inl ⟨h1, rfl, rfl, rfl⟩
  · rw [if_neg h1]
    by_cases h2 : j < 3 + A
    · rw [if_pos h2]; exact .inr (.inl ⟨by omega, h2, rfl, rfl, rfl⟩)
    · rw [if_neg h2]
      by_cases h3 : j < 3 + A + Bn
      · rw [if_pos h3]; exact .inr (.inr (.inl ⟨by omega, h3, rfl, rfl, rfl⟩))
      · rw [if_neg h3]
        by_cases h4 : j < 3 + A + Bn + 2 * E
        · rw [if_pos h4]
          rcases Nat.mod_two_eq_zero_or_one (j - (3 + A + Bn)) with h5 | h5
          · rw [h5, if_pos rfl]; exact .inr (.inr (.inr (.inl ⟨by omega, h4, rfl, rfl, rfl, rfl⟩)))
          · rw [h5, if_neg (by omega)]; exact .inr (.inr (.inr (.inr (.inl ⟨by omega, h4, rfl, rfl, rfl, rfl⟩))))
        · rw [if_neg h4]
          by_cases h5 : (j - (3 + A + Bn + 2 * E)) % (1 + D) = 0
          · rw [if_pos h5]; exact .inr (.inr (.inr (.inr (.inr (.inl ⟨by omega, h5, rfl, rfl, rfl⟩)))))
          · rw [if_neg h5]; exact .inr (.inr (.inr (.inr (.inr (.inr ⟨by omega, h5, rfl, rfl, rfl⟩)))))

/-- One place, one address. -/
theorem spot_inj {A Bn D E j t : Nat} (h0 : spot A Bn D E j 0 = spot A Bn D E t 0) (h1 : spot A Bn D E j 1 = spot A Bn D E t 1) (h2 : spot A Bn D E j 2 = spot A Bn D E t 2) : j = t := by
  rcases spot_cases A Bn D E j with ⟨a1, a2, a3, a4⟩ | ⟨a0, a1, a2, a3, a4⟩ | ⟨a0, a1, a2, a3, a4⟩ | ⟨a0, a1, a5, a2, a3, a4⟩ | ⟨a0, a1, a5, a2, a3, a4⟩ | ⟨a0, a5, a2, a3, a4⟩ | ⟨a0, a5, a2, a3, a4⟩ <;>
  rcases spot_cases A Bn D E t with ⟨b1, b2, b3, b4⟩ | ⟨b0, b1, b2, b3, b4⟩ | ⟨b0, b1, b2, b3, b4⟩ | ⟨b0, b1, b5, b2, b3, b4⟩ | ⟨b0, b1, b5, b2, b3, b4⟩ | ⟨b0, b5, b2, b3, b4⟩ | ⟨b0, b5, b2, b3, b4⟩ <;>
  rw [a2, b2] at h0 <;> (try (exfalso; omega)) <;> rw [a3, b3] at h1 <;> rw [a4, b4] at h2
  · omega
  · omega
  · omega
  · omega
  · omega
  · have e1 := Nat.div_add_mod (j - (3 + A + Bn + 2 * E)) (1 + D)
    have e2 := Nat.div_add_mod (t - (3 + A + Bn + 2 * E)) (1 + D)
    have e3 : (j - (3 + A + Bn + 2 * E)) / (1 + D) = (t - (3 + A + Bn + 2 * E)) / (1 + D) := by omega
    rw [e3, a5] at e1
    rw [b5] at e2
    omega
  · have e1 := Nat.div_add_mod (j - (3 + A + Bn + 2 * E)) (1 + D)
    have e2 := Nat.div_add_mod (t - (3 + A + Bn + 2 * E)) (1 + D)
    have e3 : (j - (3 + A + Bn + 2 * E)) / (1 + D) = (t - (3 + A + Bn + 2 * E)) / (1 + D) := by omega
    have e4 : (j - (3 + A + Bn + 2 * E)) % (1 + D) = (t - (3 + A + Bn + 2 * E)) % (1 + D) := by omega
    rw [e3, e4] at e1
    omega

section
variable {a b c d e f g l : Int} (hc : chk a b c d e f g l = 0)
 include hc

theorem at_hit {k x y : Int} {t : Nat} (ht : t < sizeN a.toNat b.toNat c.toNat d.toNat e.toNat) (h0 : spot a.toNat b.toNat d.toNat e.toNat t 0 = k) (h1 : spot a.toNat b.toNat d.toNat e.toNat t 1 = x) (h2 : spot a.toNat b.toNat d.toNat e.toNat t 2 = y) :
    atV a b c d e f g l k x y = (t : Int) := by
  unfold atV
  rw [show (chk a b c d e f g l == 0) = true by simp [hc], cond_true]
  exact srch_hit ⟨h0, h1, h2⟩ _ 0 (by omega) (by omega) fun j _ hj hs => by
    have := spot_inj (hs.1.trans h0.symm) (hs.2.1.trans h1.symm) (hs.2.2.trans h2.symm)
    omega

theorem at_miss {k x y : Int} (h : ∀ j, j < sizeN a.toNat b.toNat c.toNat d.toNat e.toNat → ¬ (spot a.toNat b.toNat d.toNat e.toNat j 0 = k ∧ spot a.toNat b.toNat d.toNat e.toNat j 1 = x ∧ spot a.toNat b.toNat d.toNat e.toNat j 2 = y)) :
    atV a b c d e f g l k x y = -1 := by
  unfold atV
  rw [show (chk a b c d e f g l == 0) = true by simp [hc], cond_true]
  exact srch_miss _ 0 fun j _ hj => h j (by omega)

end
end Go.Sx.Pr

/- The document's addresses of blocks' links and words, closed forms. -/
namespace Go.Sx.Pr
open Go Go.Sx Go.Proofs
set_option maxRecDepth 100000

section
variable {a b c d e f g l : Int} (hc : chk a b c d e f g l = 0)
 include hc

/-- The link of block i. -/
theorem at5 (i : Int) : atV a b c d e f g l 5 i 0 = if 0 ≤ i ∧ i < b * c then 3 + a + b + 2 * e + (1 + d) * i else -1 := by
  obtain ⟨⟨a1, a2⟩, ⟨b1, b2⟩, ⟨c1, c2⟩, ⟨d1, d2⟩, ⟨e1, e2⟩, _⟩ := chk_zero hc
  obtain ⟨A, rfl⟩ := Int.eq_ofNat_of_zero_le (show 0 ≤ a by omega)
  obtain ⟨Bn, rfl⟩ := Int.eq_ofNat_of_zero_le (show 0 ≤ b by omega)
  obtain ⟨Cn, rfl⟩ := Int.eq_ofNat_of_zero_le (show 0 ≤ c by omega)
  obtain ⟨D, rfl⟩ := Int.eq_ofNat_of_zero_le (show 0 ≤ d by omega)
  obtain ⟨E, rfl⟩ := Int.eq_ofNat_of_zero_le (show 0 ≤ e by omega)
  split
  · rename_i h
    obtain ⟨n, rfl⟩ := Int.eq_ofNat_of_zero_le h.1
    have hn : n < Bn * Cn := by have := h.2; rw [← Int.natCast_mul] at this; omega
    have hmul : (1 + D) * (n + 1) ≤ (1 + D) * (Bn * Cn) := Nat.mul_le_mul_left _ hn
    rw [Nat.mul_succ] at hmul
    have hm : (3 + A + Bn + 2 * E + (1 + D) * n - (3 + A + Bn + 2 * E)) = (1 + D) * n := by omega
    have hd : ((1 + D) * n) / (1 + D) = n := Nat.mul_div_cancel_left _ (by omega)
    have hr : ((1 + D) * n) % (1 + D) = 0 := Nat.mul_mod_right _ _
    have hs := spot_cases A Bn D E (3 + A + Bn + 2 * E + (1 + D) * n)
    rw [hm, hd, hr] at hs
    have key : spot A Bn D E (3 + A + Bn + 2 * E + (1 + D) * n) 0 = 5 ∧ spot A Bn D E (3 + A + Bn + 2 * E + (1 + D) * n) 1 = (n : Int) ∧ spot A Bn D E (3 + A + Bn + 2 * E + (1 + D) * n) 2 = 0 := by
      rcases hs with h1 | h1 | h1 | h1 | h1 | h1 | h1
      · omega
      · omega
      · omega
      · omega
      · omega
      · exact ⟨h1.2.2.1, h1.2.2.2.1, h1.2.2.2.2⟩
      · exact absurd rfl h1.2.1
    rw [at_hit hc (t := 3 + A + Bn + 2 * E + (1 + D) * n) (by simp only [Int.toNat_natCast]; unfold sizeN; omega) key.1 key.2.1 key.2.2]
    push_cast
    rfl
  · rename_i h
    refine at_miss hc fun j hj hs => h ?_
    simp only [Int.toNat_natCast] at hj hs
    unfold sizeN at hj
    rcases spot_cases A Bn D E j with h1 | h1 | h1 | h1 | h1 | h1 | h1
    · omega
    · omega
    · omega
    · omega
    · omega
    · have h2 : (j - (3 + A + Bn + 2 * E)) / (1 + D) < Bn * Cn := Nat.div_lt_of_lt_mul (by omega)
      rw [← Int.natCast_mul]
      generalize (j - (3 + A + Bn + 2 * E)) / (1 + D) = Q at h1 h2
      generalize Bn * Cn = R at *
      omega
    · omega

/-- Word k of block i. -/
theorem at6 (i k : Int) : atV a b c d e f g l 6 i k = if (0 ≤ i ∧ i < b * c) ∧ 0 ≤ k ∧ k < d then 3 + a + b + 2 * e + (1 + d) * i + 1 + k else -1 := by
  obtain ⟨⟨a1, a2⟩, ⟨b1, b2⟩, ⟨c1, c2⟩, ⟨d1, d2⟩, ⟨e1, e2⟩, _⟩ := chk_zero hc
  obtain ⟨A, rfl⟩ := Int.eq_ofNat_of_zero_le (show 0 ≤ a by omega)
  obtain ⟨Bn, rfl⟩ := Int.eq_ofNat_of_zero_le (show 0 ≤ b by omega)
  obtain ⟨Cn, rfl⟩ := Int.eq_ofNat_of_zero_le (show 0 ≤ c by omega)
  obtain ⟨D, rfl⟩ := Int.eq_ofNat_of_zero_le (show 0 ≤ d by omega)
  obtain ⟨E, rfl⟩ := Int.eq_ofNat_of_zero_le (show 0 ≤ e by omega)
  split
  · rename_i h
    obtain ⟨n, rfl⟩ := Int.eq_ofNat_of_zero_le h.1.1
    obtain ⟨q, rfl⟩ := Int.eq_ofNat_of_zero_le h.2.1
    have hn : n < Bn * Cn := by have := h.1.2; rw [← Int.natCast_mul] at this; omega
    have hq : q < D := by have := h.2.2; omega
    have hmul : (1 + D) * (n + 1) ≤ (1 + D) * (Bn * Cn) := Nat.mul_le_mul_left _ hn
    rw [Nat.mul_succ] at hmul
    have hm : (3 + A + Bn + 2 * E + (1 + D) * n + 1 + q - (3 + A + Bn + 2 * E)) = (1 + D) * n + (1 + q) := by omega
    have hd : ((1 + D) * n + (1 + q)) / (1 + D) = n := by rw [Nat.mul_add_div (by omega), Nat.div_eq_of_lt (by omega), Nat.add_zero]
    have hr : ((1 + D) * n + (1 + q)) % (1 + D) = 1 + q := by rw [Nat.mul_add_mod, Nat.mod_eq_of_lt (by omega)]
    have hs := spot_cases A Bn D E (3 + A + Bn + 2 * E + (1 + D) * n + 1 + q)
    rw [hm, hd, hr] at hs
    have key : spot A Bn D E (3 + A + Bn + 2 * E + (1 + D) * n + 1 + q) 0 = 6 ∧ spot A Bn D E (3 + A + Bn + 2 * E + (1 + D) * n + 1 + q) 1 = (n : Int) ∧ spot A Bn D E (3 + A + Bn + 2 * E + (1 + D) * n + 1 + q) 2 = (q : Int) := by
      rcases hs with h1 | h1 | h1 | h1 | h1 | h1 | h1
      · omega
      · omega
      · omega
      · omega
      · omega
      · omega
      · refine ⟨h1.2.2.1, h1.2.2.2.1, ?_⟩
        rw [h1.2.2.2.2]; omega
    rw [at_hit hc (t := 3 + A + Bn + 2 * E + (1 + D) * n + 1 + q) (by simp only [Int.toNat_natCast]; unfold sizeN; omega) key.1 key.2.1 key.2.2]
    push_cast
    rfl
  · rename_i h
    refine at_miss hc fun j hj hs => h ?_
    simp only [Int.toNat_natCast] at hj hs
    unfold sizeN at hj
    rcases spot_cases A Bn D E j with h1 | h1 | h1 | h1 | h1 | h1 | h1
    · omega
    · omega
    · omega
    · omega
    · omega
    · omega
    · have h2 : (j - (3 + A + Bn + 2 * E)) / (1 + D) < Bn * Cn := Nat.div_lt_of_lt_mul (by omega)
      have h3 : (j - (3 + A + Bn + 2 * E)) % (1 + D) < 1 + D := Nat.mod_lt _ (by omega)
      have h4 := h1.2.1
      rw [← Int.natCast_mul]
      generalize (j - (3 + A + Bn + 2 * E)) / (1 + D) = Q at h1 h2
      generalize (j - (3 + A + Bn + 2 * E)) % (1 + D) = S at h1 h3 h4
      generalize Bn * Cn = R at *
      omega
end
end Go.Sx.Pr

namespace Go.Sx.Pr
open Go Go.Sx Go.Proofs
set_option maxRecDepth 100000
/-- (coatcheck/plan.Plan).BlockLink -/
def C117 : CF := ⟨2, [(4, none)],
 .seq (.reg false [⟨some 2, .box 87 8 (.t 0), none, 0⟩,
   ⟨some 4, .mv (.c (.d (.v (.int .i64 0)))), none, 0⟩])
 (.seq (.reg true [⟨some 5, .ld 8 true (.t 2), none, 0⟩,
   ⟨some 6, .ld 8 true (.t 2), none, 0⟩,
   ⟨some 7, .call (.c (.fn (.func 94) [] [])) [.t 6], none, 2⟩,
   ⟨some 8, .mv (.t 1), none, 0⟩,
   ⟨some 9, .ld 8 true (.t 2), none, 0⟩,
   ⟨some 10, .call (.c (.fn (.func 65) [] [])) [.t 9], none, 22⟩,
   ⟨some 11, .fa 0 (.t 2), none, 0⟩,
   ⟨some 12, .fa 3 (.t 11), none, 64⟩,
   ⟨some 13, .ld 1 false (.t 12), none, 192⟩,
   ⟨some 14, .bin .add (.c (.d (.v (.int .i64 1)))) (.t 13), none, 448⟩,
   ⟨some 15, .call (.c (.fn (.func 81) [] [])) [.t 5, .t 7, .t 8, .t 10, .t 14], none, 1023⟩,
   ⟨some 4, .mv (.t 15), none, 2047⟩])
 (.ret))⟩
theorem c117 : coF Try.prog Try.f90 = some C117 := by kernel_rfl
def A117 : Ann := { keep := [0, 1, 2, 4], live := [] }
def E117 {Ω : Type} : Env Ω := econs 94 S107 (econs 65 S108 (econs 81 S122 (enil)))
theorem e117 : GoodE Try.prog E117 := GoodE.cons g107 (GoodE.cons g108 (GoodE.cons g122 (GoodE.nil)))
end Go.Sx.Pr

/- Contracts: the plan's addresses are the document's. -/
namespace Go.Sx.Pr
open Go Go.Sx Go.Proofs
set_option maxRecDepth 100000

theorem u117 {Ω : Type} (it : Itr Ω) (K : SV → SH → Option Ω) (a b c d e f g l i : Int) :
    sxFnI it E117 A117 C117 [cfgS a b c d e f g l, I i] [] K =
    br (!chk a b c d e f g l == 0) (br (decide (i < 0)) (K (I (-1)) [.cells 87 [I a, I b, I c, I d, I e, I f, I g, U l]]) (br (decide (i ≥ 0)) (K (I (-1)) [.cells 87 [I a, I b, I c, I d, I e, I f, I g, U l]]) (br (!chk a b c d e f g l == 0) (K (I (-1)) [.cells 87 [I a, I b, I c, I d, I e, I f, I g, U l]]) (K (I (IntKind.wrap .i64 (IntKind.wrap .i64 (IntKind.wrap .i64 (IntKind.wrap .i64 (3 + a) + b) + IntKind.wrap .i64 (2 * e)) + IntKind.wrap .i64 (i * IntKind.wrap .i64 (1 + d))))) [.cells 87 [I a, I b, I c, I d, I e, I f, I g, U l]])))) (br (decide (i < 0)) (K (I (-1)) [.cells 87 [I a, I b, I c, I d, I e, I f, I g, U l]]) (br (decide (i ≥ IntKind.wrap .i64 (b * c))) (K (I (-1)) [.cells 87 [I a, I b, I c, I d, I e, I f, I g, U l]]) (br (!chk a b c d e f g l == 0) (K (I (-1)) [.cells 87 [I a, I b, I c, I d, I e, I f, I g, U l]]) (K (I (IntKind.wrap .i64 (IntKind.wrap .i64 (IntKind.wrap .i64 (IntKind.wrap .i64 (3 + a) + b) + IntKind.wrap .i64 (2 * e)) + IntKind.wrap .i64 (i * IntKind.wrap .i64 (1 + d))))) [.cells 87 [I a, I b, I c, I d, I e, I f, I g, U l]])))) := by kernel_rfl

theorem atV_bad {a b c d e f g l k x y : Int} (h : ¬ chk a b c d e f g l = 0) : atV a b c d e f g l k x y = -1 := by
  unfold atV
  rw [show (chk a b c d e f g l == 0) = false by simp [h], cond_false]

abbrev H49 (a b c d e f g l : Int) : SH := [.cells 87 [I a, I b, I c, I d, I e, I f, I g, U l]]
section
variable {Ω : Type} (K : SV → SH → Option Ω) (a b c d e f g l i : Int)
theorem x117 : sxFn E117 A117 C117 [cfgS a b c d e f g l, I i] [] K = K (I (atV a b c d e f g l 5 i 0)) (H49 a b c d e f g l) := by
  rw [← sxFnI_eq, u117]
  by_cases hc : chk a b c d e f g l = 0
  · rw [at5 hc, show (!chk a b c d e f g l == 0) = false by simp [hc], br_f, br_f]
    obtain ⟨⟨a1, a2⟩, ⟨b1, b2⟩, ⟨c1, c2⟩, ⟨d1, d2⟩, ⟨e1, e2⟩, _⟩ := chk_zero hc
    have hbc : 0 ≤ b * c ∧ b * c ≤ 128 := by
      obtain ⟨Bn, rfl⟩ := Int.eq_ofNat_of_zero_le (show 0 ≤ b by omega)
      obtain ⟨Cn, rfl⟩ := Int.eq_ofNat_of_zero_le (show 0 ≤ c by omega)
      have hBC : Bn * Cn ≤ 8 * 16 := Nat.mul_le_mul (by omega) (by omega)
      rw [← Int.natCast_mul]; omega
    rw [w64 (x := b * c) (by omega) (by omega)]
    by_cases h1 : i < 0
    · rw [decide_eq_true h1, br_t, if_neg (by omega)]
    · rw [decide_eq_false h1, br_f]
      by_cases h2 : i ≥ b * c
      · rw [decide_eq_true h2, br_t, if_neg (by omega)]
      · have hi : 0 ≤ (1 + d) * i ∧ (1 + d) * i ≤ 5 * 128 := by
          obtain ⟨D, rfl⟩ := Int.eq_ofNat_of_zero_le (show 0 ≤ d by omega)
          obtain ⟨n, rfl⟩ := Int.eq_ofNat_of_zero_le (show 0 ≤ i by omega)
          have hP : (1 + D) * n ≤ 5 * 128 := Nat.mul_le_mul (by omega) (by omega)
          have e0 : (1 + (D : Int)) * (n : Int) = (((1 + D) * n : Nat) : Int) := by push_cast; rfl
          rw [e0]; omega
        rw [decide_eq_false h2, br_f, w64 (x := 3 + a) (by omega) (by omega), w64 (x := 3 + a + b) (by omega) (by omega), w64 (x := 2 * e) (by omega) (by omega), w64 (x := 3 + a + b + 2 * e) (by omega) (by omega),
          w64 (x := 1 + d) (by omega) (by omega), Int.mul_comm i (1 + d), w64 (x := (1 + d) * i) (by omega) (by omega), w64 (by omega) (by omega), if_pos (by omega)]
  · rw [atV_bad hc, show (!chk a b c d e f g l == 0) = true by simp [hc], br_t]
    cases decide (i < 0) <;> cases decide (i ≥ 0) <;> simp only [br_t, br_f]
end

/-- An address of one kind. -/
def FAd (k : Int) : List (List Int) → Option (Bool × SV × SH)
  | [[a, b, c, d, e, f, g, l], [i]] => some (true, I (atV a b c d e f g l k i 0), [])
  | _ => none
theorem one_of {α : Type} {l : List α} (h : l.length = 1) : ∃ a, l = [a] := by
  match l, h with
  | [a], _ => exact ⟨a, rfl⟩
def S117 {Ω : Type} : Spec Ω := conSpec [.g cfgK, .i .i64] (FAd 5)
theorem g117 : Good1 Try.prog 90 S117 := conGood Try.func90 (by kernel_rfl) c117 e117 mix (A := A117) fun L r hr hl hF => by
  obtain ⟨p, q, rfl, hp, s, q2, rfl, hs, hq⟩ := hl
  simp only [lenAs] at hq
  subst hq
  obtain ⟨a, b, c, d, e, f, g, l, rfl⟩ := eight hp
  obtain ⟨i, rfl⟩ := one_of hs
  simp only [FAd, Option.some.injEq, Prod.mk.injEq, true_and] at hF
  obtain ⟨rfl, rfl⟩ := hF
  exact ⟨trivial, trivial, _, trim_none rfl _, x117 _ a b c d e f g l i⟩
end Go.Sx.Pr

/- Contracts: the document's Low and power. -/
namespace Go.Sx.Pr
open Go Go.Sx Go.Proofs
set_option maxRecDepth 100000

def FLow : List (List Int) → Option (Bool × SV × SH)
  | [[w], [bits]] => some (decide (0 ≤ w) && (decide (0 ≤ bits) && decide (bits ≤ 63)), U (w % 2 ^ bits.toNat), [])
  | _ => none
def FPow : List (List Int) → Option (Bool × SV × SH)
  | [[bits]] => some (decide (0 ≤ bits) && decide (bits ≤ 63), U (2 ^ bits.toNat), [])
  | _ => none
theorem one_of' {α : Type} {l : List α} (h : l.length = 1) : ∃ a, l = [a] := by
  match l, h with
  | [a], _ => exact ⟨a, rfl⟩
def S80c {Ω : Type} : Spec Ω := conSpec [.i .u64, .i .i64] FLow
def S83c {Ω : Type} : Spec Ω := conSpec [.i .i64] FPow
end Go.Sx.Pr
