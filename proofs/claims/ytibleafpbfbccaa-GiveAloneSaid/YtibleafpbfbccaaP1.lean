/- Pure contracts: functions of data, known by their results as data; nothing of the caller's memory changes. -/
import Derived.Test.YtibleafpbfbccaaSxCon3
import Derived.Test.YtibleafpbfbccaaSxCon3
import Derived.Test.YtibleafpbfbccaaSxCon3
import Derived.Test.YtibleafpbfbccaaSxCon2
import Derived.Lib.AppendZeros
import Derived.Lib.Walk
import Derived.Test.YtibleafpbfbccaaRows
import Derived.KernelRfl
import Derived.Test.YtibleafpbfbccaaSxFrame
set_option linter.all false
set_option linter.unusedVariables false
set_option linter.unusedSimpArgs false
set_option linter.unnecessarySimpa false
namespace Go.Sx

/-! ### results as data -/
 mutual
/-- Values without locs and without data behind them. -/
def flt0 : SV → Bool
  | .d (.v _) => true
  | .fn _ a b => flt0L a && flt0L b
  | .agg c => flt0L c
  | .tup c => flt0L c
  | _ => false
def flt0L : List SV → Bool
  | [] => true
  | x :: r => flt0 x && flt0L r
end
 mutual
/-- Values that point to boxes of such. -/
def dat1 (h : SH) : SV → Option SV
  | .d (.v x) => some (.d (.v x))
  | .ptr l o => match hget h l with
    | .cells _ c => bif flt0L c then some (.rc c o) else none
    | _ => none
  | .fn g a b => match dat1L h a, dat1L h b with
    | some a', some b' => some (.fn g a' b')
    | _, _ => none
  | .agg c => match dat1L h c with | some c' => some (.agg c') | none => none
  | _ => none
def dat1L (h : SH) : List SV → Option (List SV)
  | [] => some []
  | x :: r => match dat1 h x, dat1L h r with
    | some y, some s => some (y :: s)
    | _, _ => none
end
def dat0 (h : SH) : List (Value × SV) → Option (List SV)
  | [] => some []
  | (_, x) :: r => match dat0 h r, dat1 h x with
    | some s, some y => some (y :: s)
    | _, _ => none
section
variable {cx cx' : Cx} {w w' : World}
 mutual
theorem flt0_rep : ∀ (x : SV) (u : Value), flt0 x = true → SRep cx w x u → SRep cx' w' x u
  | .d (.v x), u, _, h => by simp only [SRep, DRep] at h ⊢; exact h
  | .d (.ints _ _), u, e, h | .d (.sl _ _ _), u, e, h => by simp [flt0] at e
  | .ptr _ _, u, e, h | .pe _ _ _, u, e, h | .rp _ _ _, u, e, h | .own _, u, e, h | .cs _ _ _ _ _, u, e, h | .mp _, u, e, h | .md _ _, u, e, h | .rc _ _, u, e, h | .top, u, e, h => by simp [flt0] at e
  | .fn g a b, u, e, h => by
      simp only [flt0, Bool.and_eq_true] at e
      simp only [SRep] at h ⊢
      obtain ⟨a', b', e1, h1, h2⟩ := h
      exact ⟨a', b', e1, flt0L_rep a a' e.1 h1, flt0L_rep b b' e.2 h2⟩
  | .agg c, u, e, h => by
      simp only [flt0] at e
      simp only [SRep] at h ⊢
      obtain ⟨c', e1, h1⟩ := h
      exact ⟨c', e1, flt0L_rep c c' e h1⟩
  | .tup c, u, e, h => by
      simp only [flt0] at e
      simp only [SRep] at h ⊢
      obtain ⟨c', e1, h1⟩ := h
      exact ⟨c', e1, flt0L_rep c c' e h1⟩
theorem flt0L_rep : ∀ (c : List SV) (c' : List Value), flt0L c = true → SRepL cx w c c' → SRepL cx' w' c c'
  | [], [], _, _ => by simp only [SRepL]
  | x :: r, v :: vs, e, h => by
      simp only [flt0L, Bool.and_eq_true] at e
      simp only [SRepL] at h ⊢
      exact ⟨flt0_rep x v e.1 h.1, flt0L_rep r vs e.2 h.2⟩
  | [], _ :: _, _, h => by simp [SRepL] at h
  | _ :: _, [], _, h => by simp [SRepL] at h
end
end
section
variable {cxq cx' : Cx} {H : SH} {w : World}
 mutual
theorem dat1_rep (hG : Gam cxq H w) (hO : ∀ l, liv cxq H l → cx'.fz (cxq.th l)) : ∀ (x y : SV) (u : Value), dat1 H x = some y → SRep cxq w x u → SRep cx' w y u
  | .d (.v x), y, u, e, h => by simp only [dat1, Option.some.injEq] at e; subst e; simp only [SRep, DRep] at h ⊢; exact h
  | .d (.ints _ _), y, u, e, h | .d (.sl _ _ _), y, u, e, h => by simp [dat1] at e
  | .pe _ _ _, y, u, e, h | .rp _ _ _, y, u, e, h | .own _, y, u, e, h | .cs _ _ _ _ _, y, u, e, h | .mp _, y, u, e, h | .md _ _, y, u, e, h | .rc _ _, y, u, e, h | .tup _, y, u, e, h | .top, y, u, e, h => by simp [dat1] at e
  | .ptr l o, y, u, e, h => by
      simp only [dat1] at e
      have hobj := hG.obj l
      simp only [SRep] at h
      split at e
      · rename_i t c hl
        obtain ⟨hf, e⟩ := cond_some e
        simp only [Option.some.injEq] at e; subst e
        rw [hl] at hobj
        obtain ⟨t', c', hb, hc⟩ := hobj
        simp only [SRep]
        refine ⟨cxq.th l, c', h.2, hO l (by simp [liv, hl]), fun j v hv => ?_, flt0L_rep c c' hf hc⟩
        simp [World.cell?, ad, hb, hv]
      · cases e
  | .fn g p q, y, u, e, h => by
      simp only [dat1] at e
      split at e
      · rename_i p' q' hp hq
        simp only [Option.some.injEq] at e; subst e
        simp only [SRep] at h ⊢
        obtain ⟨a', b', e1, h1, h2⟩ := h
        exact ⟨a', b', e1, dat1L_rep hG hO p p' a' hp h1, dat1L_rep hG hO q q' b' hq h2⟩
      · cases e
  | .agg c, y, u, e, h => by
      simp only [dat1] at e
      split at e
      · rename_i c' hc
        simp only [Option.some.injEq] at e; subst e
        simp only [SRep] at h ⊢
        obtain ⟨v, e1, h1⟩ := h
        exact ⟨v, e1, dat1L_rep hG hO c c' v hc h1⟩
      · cases e
theorem dat1L_rep (hG : Gam cxq H w) (hO : ∀ l, liv cxq H l → cx'.fz (cxq.th l)) : ∀ (x y : List SV) (u : List Value), dat1L H x = some y → SRepL cxq w x u → SRepL cx' w y u
  | [], y, u, e, h => by simp only [dat1L, Option.some.injEq] at e; subst e; cases u with
    | nil => simp only [SRepL]
    | cons => simp [SRepL] at h
  | x :: r, y, u, e, h => by
      simp only [dat1L] at e
      split at e
      · rename_i y' s' h1 h2
        simp only [Option.some.injEq] at e; subst e
        cases u with
        | nil => simp [SRepL] at h
        | cons v vs =>
          simp only [SRepL] at h ⊢
          exact ⟨dat1_rep hG hO x y' v h1 h.1, dat1L_rep hG hO r s' vs h2 h.2⟩
      · cases e
end
theorem dat0_rep (hG : Gam cxq H w) (hO : ∀ l, liv cxq H l → cx'.fz (cxq.th l)) : ∀ {es : List (Value × SV)} {xs : List SV} {l : List (Value × Value)}, dat0 H es = some xs → SRepE cxq w es l → l = (es.map (·.1)).zip (l.map (·.2)) ∧ SRepL cx' w xs (l.map (·.2)) ∧ (l.map (·.2)).length = (es.map (·.1)).length
  | [], xs, [], e, _ => by simp only [dat0, Option.some.injEq] at e; subst e; simp [SRepL]
  | [], xs, _ :: _, e, h => by simp [SRepE] at h
  | (q, x) :: r, xs, [], e, h => by simp [SRepE] at h
  | (q, x) :: r, xs, (q', v) :: l, e, h => by
      simp only [dat0] at e
      split at e
      · rename_i s y hs hy
        simp only [Option.some.injEq] at e; subst e
        simp only [SRepE] at h
        obtain ⟨rfl, h1, h2⟩ := h
        obtain ⟨k1, k2, k3⟩ := dat0_rep hG hO hs h2
        refine ⟨?_, ?_, by simpa using k3⟩
        · simp only [List.map_cons, List.zip_cons_cons, List.cons.injEq, true_and]; exact k1
        · simp only [List.map_cons, SRepL]; exact ⟨dat1_rep hG hO x y v hy h1, k2⟩
      · cases e
end
 mutual
/-- A result as data: rows that the callee made become data; a: data of the arguments may stand in it. -/
def dat (a : Bool) (h : SH) : SV → Option SV
  | .d (.v x) => some (.d (.v x))
  | .d x => bif a then some (.d x) else none
  | .own l => match hget h l with
    | .rowi _ k xs => some (.d (.ints k xs))
    | .row _ sz n f => bif a then some (.d (.sl sz n f)) else none
    | _ => none
  | .fn g x y => match datL a h x, datL a h y with
    | some x', some y' => some (.fn g x' y')
    | _, _ => none
  | .agg c => match datL a h c with | some c' => some (.agg c') | none => none
  | .tup c => match datL a h c with | some c' => some (.tup c') | none => none
  | .top => some .top
  | .mp l => match hget h l with
    | .maps es => match dat0 h es with | some xs => some (.md (es.map (·.1)) xs) | none => none
    | _ => none
  | _ => none
def datL (a : Bool) (h : SH) : List SV → Option (List SV)
  | [] => some []
  | x :: r => match dat a h x, datL a h r with
    | some y, some s => some (y :: s)
    | _, _ => none
end

section
variable {a : Bool} {cxq cx' : Cx} {H : SH} {w : World}
 mutual
theorem dat_rep (hG : Gam cxq H w) (hA : a = true → ∀ b, cxq.fz b → cx'.fz b) (hO : ∀ l, liv cxq H l → cx'.fz (cxq.th l)) : ∀ (x y : SV) (u : Value), dat a H x = some y → SRep cxq w x u → SRep cx' w y u
  | .d (.v x), y, u, e, h => by simp only [dat, Option.some.injEq] at e; subst e; simp only [SRep, DRep] at h ⊢; exact h
  | .d (.ints k l), y, u, e, h => by
      simp only [dat] at e
      cases ha : a with
      | false => rw [ha] at e; cases e
      | true =>
        rw [ha] at e; simp only [cond_true, Option.some.injEq] at e; subst e
        simp only [SRep] at h ⊢
        exact DRep.mono (hA ha) (fun _ _ => rfl) _ _ h
  | .d (.sl sz n f), y, u, e, h => by
      simp only [dat] at e
      cases ha : a with
      | false => rw [ha] at e; cases e
      | true =>
        rw [ha] at e; simp only [cond_true, Option.some.injEq] at e; subst e
        simp only [SRep] at h ⊢
        exact DRep.mono (hA ha) (fun _ _ => rfl) _ _ h
  | .own l, y, u, e, h => by
      simp only [dat] at e
      have hobj := hG.obj l
      simp only [SRep] at h
      split at e
      · rename_i t k xs hl
        simp only [Option.some.injEq] at e; subst e
        rw [hl] at hobj
        obtain ⟨hln, hrs, hcp, hz, hh⟩ := hobj
        simp only [SRep, DRep]
        refine ⟨_, _, by rw [← hln]; exact h.2, hcp, fun hn => ?_⟩
        have hpos : 0 < xs.length := List.length_pos_iff.2 hn
        cases hnl : cxq.nl l with
        | true => have := hz hnl; omega
        | false =>
          obtain ⟨t', c', hb, hs, hc⟩ := hh hnl
          refine ⟨cxq.th l, 0, by simp, hO l (by simp [liv, hl, hnl]), fun i hi => ?_⟩
          simp only [World.cell?, ad, hb, Nat.zero_add]
          exact hc i hi
      · rename_i t sz n f hl
        cases ha : a with
        | false => rw [ha] at e; cases e
        | true =>
          rw [ha] at e; simp only [cond_true, Option.some.injEq] at e; subst e
          rw [hl] at hobj
          obtain ⟨hln, hrs, hcp, hz, hh⟩ := hobj
          simp only [SRep, DRep]
          refine ⟨_, _, by rw [← hln]; exact h.2, hcp, fun hn => ?_⟩
          cases hnl : cxq.nl l with
          | true => have := hz hnl; omega
          | false =>
            obtain ⟨t', c', hb, hs, hc⟩ := hh hnl
            refine ⟨cxq.th l, 0, by simp, hO l (by simp [liv, hl, hnl]), fun i hi j hj => ?_⟩
            obtain ⟨x, hx, hd⟩ := hc i hi j hj
            exact ⟨x, by simp [World.cell?, ad, hb, hx], DRep.mono (hA ha) (fun _ _ => rfl) _ _ hd⟩
      · cases e
  | .fn g p q, y, u, e, h => by
      simp only [dat] at e
      split at e
      · rename_i p' q' hp hq
        simp only [Option.some.injEq] at e; subst e
        simp only [SRep] at h ⊢
        obtain ⟨a', b', e1, h1, h2⟩ := h
        exact ⟨a', b', e1, datL_rep hG hA hO p p' a' hp h1, datL_rep hG hA hO q q' b' hq h2⟩
      · cases e
  | .agg c, y, u, e, h => by
      simp only [dat] at e
      split at e
      · rename_i c' hc
        simp only [Option.some.injEq] at e; subst e
        simp only [SRep] at h ⊢
        obtain ⟨v, e1, h1⟩ := h
        exact ⟨v, e1, datL_rep hG hA hO c c' v hc h1⟩
      · cases e
  | .tup c, y, u, e, h => by
      simp only [dat] at e
      split at e
      · rename_i c' hc
        simp only [Option.some.injEq] at e; subst e
        simp only [SRep] at h ⊢
        obtain ⟨v, e1, h1⟩ := h
        exact ⟨v, e1, datL_rep hG hA hO c c' v hc h1⟩
      · cases e
  | .top, y, u, e, h => by simp only [dat, Option.some.injEq] at e; subst e; simp only [SRep]
  | .ptr _ _, y, u, e, h | .pe _ _ _, y, u, e, h | .rp _ _ _, y, u, e, h | .cs _ _ _ _ _, y, u, e, h | .md _ _, y, u, e, h | .rc _ _, y, u, e, h => by simp [dat] at e
  | .mp l, y, u, e, h => by
      simp only [dat] at e
      have hobj := hG.obj l
      simp only [SRep] at h
      split at e
      · rename_i es hl
        split at e
        · rename_i xs hx
          simp only [Option.some.injEq] at e; subst e
          rw [hl] at hobj
          obtain ⟨el, c, hb, hent⟩ := hobj
          obtain ⟨k1, k2, k3⟩ := dat0_rep (cx' := cx') hG hO hx hent
          simp only [SRep]
          exact ⟨_, el, c, _, h.2, hO l (by simp [liv, hl]), hb, k1, k3, k2⟩
        · cases e
      · cases e
theorem datL_rep (hG : Gam cxq H w) (hA : a = true → ∀ b, cxq.fz b → cx'.fz b) (hO : ∀ l, liv cxq H l → cx'.fz (cxq.th l)) : ∀ (x y : List SV) (u : List Value), datL a H x = some y → SRepL cxq w x u → SRepL cx' w y u
  | [], y, u, e, h => by simp only [datL, Option.some.injEq] at e; subst e; cases u with
    | nil => simp only [SRepL]
    | cons => simp [SRepL] at h
  | x :: r, y, u, e, h => by
      simp only [datL] at e
      split at e
      · rename_i y' s' h1 h2
        simp only [Option.some.injEq] at e; subst e
        cases u with
        | nil => simp [SRepL] at h
        | cons v vs =>
          simp only [SRepL] at h ⊢
          exact ⟨dat_rep hG hA hO x y' v h1 h.1, datL_rep hG hA hO r s' vs h2 h.2⟩
      · cases e
end
end

/-- What is new is data from now on. -/
def cxN (cx : Cx) (w w' : World) : Cx := { cx with fz := fun b => cx.fz b ∨ (w.heap.size ≤ b ∧ b < w'.heap.size) }

theorem fresh_data {cx : Cx} {h : SH} {w w' : World} (hg : Gam cx h w) (hsame : ∀ b, b < w.heap.size → w'.heap[b]? = w.heap[b]?) (hsz : w.heap.size ≤ w'.heap.size) (hio : Io w w') : Grow0 cx w (cxN cx w w') w' ∧ Gam (cxN cx w w') h w' := by
  have gr2 : Grow0 cx w (cxN cx w w') w' := ⟨fun _ hb => .inl hb, fun b hb => hsame b (hg.fzlt b hb), hsz, fun l hl _ => ⟨hl, rfl, rfl, rfl, rfl, rfl⟩, rfl, hio⟩
  have hlv : ∀ l, liv (cxN cx w w') h l → liv cx h l := fun l hl => hl
  refine ⟨gr2, ⟨hg.n, fun m => ?_, fun m hm => Nat.lt_of_lt_of_le (hg.lt m (hlv m hm)) hsz, fun m hm hhd => ?_, fun a b ha hb => hg.inj a b (hlv a ha) (hlv b hb), fun b hb => ?_, fun b hb hfr => ?_⟩⟩
  · rcases Nat.lt_or_ge m h.length with hm | hm
    · exact ORep.keep (h := h) gr2 (hg.n ▸ hm) _ rfl (fun hv => hsame _ (hg.lt m hv)) (hg.obj m)
    · rw [hget_ge hm]; trivial
  · have h1 := hg.lt m (hlv m hm)
    rcases hhd with (h2 | ⟨h2, h3⟩) | h2
    · exact hg.own m (hlv m hm) (.inl h2)
    · simp only [cxN] at h2; omega
    · exact hg.own m (hlv m hm) (.inr h2)
  · rcases hb with (h2 | ⟨h2, h3⟩) | h2
    · exact Nat.lt_of_lt_of_le (hg.fzlt b (.inl h2)) hsz
    · exact h3
    · exact Nat.lt_of_lt_of_le (hg.fzlt b (.inr h2)) hsz
  · rcases hb with h2 | ⟨h2, h3⟩
    · exact hg.dj b h2 hfr
    · have := hg.fzlt b (.inr hfr); omega

/-! ### arguments: data -/
inductive PT where
  | any
  | drop
  | g (cts : List CT)
  | s (k : IntKind)

 mutual
def nlc : SV → Bool
  | .d _ | .rp _ _ _ | .top => true
  | .fn _ a b => nlcL a && nlcL b
  | .agg c | .tup c | .md _ c | .rc c _ => nlcL c
  | _ => false
def nlcL : List SV → Bool
  | [] => true
  | x :: r => nlc x && nlcL r
end

def nrmP : PT → SV → Option SV
  | .any, x => bif nlc x then some x else none
  | .drop, _ => some .top
  | .g cs, .agg c => match nrmC cs c with | some c' => some (.agg c') | none => none
  | .s k, .d (.ints k' l) => bif kEq k k' then some (.d (.ints k l)) else none
  | .s k, .d (.v (.slice none 0 0)) => some (.d (.ints k []))
  | .s k, .d (.v (.slice (some _) 0 _)) => some (.d (.ints k []))
  | _, _ => none
def nrmPs : List PT → List SV → Option (List SV)
  | [], [] => some []
  | t :: ts, x :: r => match nrmP t x, nrmPs ts r with
    | some y, some s => some (y :: s)
    | _, _ => none
  | _, _ => none

section
variable {cx cx' : Cx} {w : World}
 mutual
theorem nlc_ok (hf : cx'.fz = cx.fz) : ∀ (x : SV) (u : Value), nlc x = true → SRep cx w x u → SRep cx' w x u
  | .d x, u, _, h => by simp only [SRep] at h ⊢; rw [hf]; exact h
  | .rp sz f o, u, _, h => by simp only [SRep] at h ⊢; rw [hf]; exact h
  | .top, u, _, _ => by simp only [SRep]
  | .fn g a b, u, hn, h => by
      simp only [nlc, Bool.and_eq_true] at hn
      simp only [SRep] at h ⊢
      obtain ⟨a', b', e, h1, h2⟩ := h
      exact ⟨a', b', e, nlcL_ok hf a a' hn.1 h1, nlcL_ok hf b b' hn.2 h2⟩
  | .agg c, u, hn, h => by
      simp only [nlc] at hn
      simp only [SRep] at h ⊢
      obtain ⟨c', e, h1⟩ := h
      exact ⟨c', e, nlcL_ok hf c c' hn h1⟩
  | .tup c, u, hn, h => by
      simp only [nlc] at hn
      simp only [SRep] at h ⊢
      obtain ⟨c', e, h1⟩ := h
      exact ⟨c', e, nlcL_ok hf c c' hn h1⟩
  | .md ks c, u, hn, h => by
      simp only [nlc] at hn
      simp only [SRep] at h ⊢
      obtain ⟨b, e, c', vs, eu, hb, hw, hl, hk, hc⟩ := h
      exact ⟨b, e, c', vs, eu, by rw [hf]; exact hb, hw, hl, hk, nlcL_ok hf c vs hn hc⟩
  | .ptr _ _, u, hn, _ | .pe _ _ _, u, hn, _ | .own _, u, hn, _ | .cs _ _ _ _ _, u, hn, _ | .mp _, u, hn, _ => by simp [nlc] at hn
  | .rc c o, u, hn, h => by
      simp only [nlc] at hn
      simp only [SRep] at h ⊢
      obtain ⟨b, vs, eu, hb, hw, hc⟩ := h
      exact ⟨b, vs, eu, by rw [hf]; exact hb, hw, nlcL_ok hf c vs hn hc⟩
theorem nlcL_ok (hf : cx'.fz = cx.fz) : ∀ (x : List SV) (u : List Value), nlcL x = true → SRepL cx w x u → SRepL cx' w x u
  | [], [], _, _ => by simp only [SRepL]
  | x :: r, v :: vs, hn, h => by
      simp only [nlcL, Bool.and_eq_true] at hn
      simp only [SRepL] at h ⊢
      exact ⟨nlc_ok hf x v hn.1 h.1, nlcL_ok hf r vs hn.2 h.2⟩
  | [], _ :: _, _, h => by simp [SRepL] at h
  | _ :: _, [], _, h => by simp [SRepL] at h
end

theorem nrmP_ok (hf : cx'.fz = cx.fz) {t : PT} {x y : SV} {u : Value} (e : nrmP t x = some y) (h : SRep cx w x u) : SRep cx' w y u := by
  unfold nrmP at e
  split at e
  · obtain ⟨hn, e⟩ := cond_some e
    simp only [Option.some.injEq] at e; subst e
    exact nlc_ok hf _ _ hn h
  · simp only [Option.some.injEq] at e; subst e
    simp only [SRep]
  · split at e
    · rename_i c' hc
      simp only [Option.some.injEq] at e; subst e
      simp only [SRep] at h ⊢
      obtain ⟨v, e1, h1⟩ := h
      exact ⟨v, e1, nrmC_ok hf hc h1⟩
    · cases e
  · obtain ⟨hk, e'⟩ := cond_some e
    have := kEq_eq hk; subst this
    simp only [Option.some.injEq] at e'; subst e'
    simp only [SRep] at h ⊢; rw [hf]; exact h
  · simp only [Option.some.injEq] at e; subst e
    simp only [SRep, DRep] at h ⊢
    exact ⟨none, 0, h.1, Nat.le_refl _, fun hn => absurd rfl hn⟩
  · rename_i b c
    simp only [Option.some.injEq] at e; subst e
    simp only [SRep, DRep] at h ⊢
    exact ⟨_, _, h.1, Nat.zero_le _, fun hn => absurd rfl hn⟩
  · cases e
theorem nrmPs_ok (hf : cx'.fz = cx.fz) : ∀ {ts : List PT} {x y : List SV} {u : List Value}, nrmPs ts x = some y → SRepL cx w x u → SRepL cx' w y u
  | [], [], y, u, e, h => by
    simp only [nrmPs, Option.some.injEq] at e; subst e
    cases u with
    | nil => simp only [SRepL]
    | cons => simp [SRepL] at h
  | t :: ts, x :: r, y, u, e, h => by
    simp only [nrmPs] at e
    split at e
    · rename_i y' s' h1 h2
      simp only [Option.some.injEq] at e; subst e
      cases u with
      | nil => simp [SRepL] at h
      | cons v vs =>
        simp only [SRepL] at h ⊢
        exact ⟨nrmP_ok hf h1 h.1, nrmPs_ok hf h2 h.2⟩
    · cases e
  | [], _ :: _, _, _, e, _ => by simp [nrmPs] at e
  | _ :: _, [], _, _, e, _ => by simp [nrmPs] at e
end

/-! ### the contracts -/
def altsP {Ω : Type} (k : SV → List Nat → List Nat → SH → Option Ω) (h : SH) : List (Bool × SV) → Option Ω
  | [] => none
  | (g, r) :: rest => br g (k r [] [] h) (altsP k h rest)
def firstP : List (Bool × SV) → Option SV
  | [] => none
  | (g, r) :: rest => bif g then some r else firstP rest
theorem altsP_first {Ω : Type} {k : SV → List Nat → List Nat → SH → Option Ω} {h : SH} {out : Ω} : ∀ {L : List (Bool × SV)}, altsP k h L = some out → ∃ r, firstP L = some r ∧ k r [] [] h = some out
  | [], e => by cases e
  | (g, r) :: rest, e => by
    simp only [altsP] at e
    rcases br_some e with ⟨rfl, e⟩ | ⟨rfl, e⟩
    · exact ⟨r, rfl, e⟩
    · obtain ⟨r', h1, h2⟩ := altsP_first e
      exact ⟨r', h1, h2⟩
theorem altsP_of {Ω : Type} {k : SV → List Nat → List Nat → SH → Option Ω} {h : SH} : ∀ {L : List (Bool × SV)} {r : SV}, firstP L = some r → altsP k h L = k r [] [] h
  | [], r, e => by cases e
  | (g, r') :: rest, r, e => by
    simp only [firstP] at e
    cases g with
    | true => simp only [cond_true, Option.some.injEq] at e; subst e; rfl
    | false => exact altsP_of (L := rest) e

/-- A function of data, by its result as data. -/
def pureSpec (ts : List PT) (F : List SV → List (Bool × SV)) {Ω : Type} : Spec Ω := fun args h k =>
  match nrmPs ts args with
  | some az => altsP k h (F az)
  | none => none
/-- A function of what is lent to it, whose result is new. -/
def conSpecF (ts : List AT) (F : List (List Int) → List (Bool × SV)) {Ω : Type} : Spec Ω := fun args h k =>
  match lendAs h ts args with
  | some l => altsP k h (F l)
  | none => none

theorem pure_par {ts : List PT} {F : List SV → List (Bool × SV)} {Ω Ω' : Type} : SpecPar (pureSpec ts F (Ω := Ω)) (pureSpec ts F (Ω := Ω')) := by
  intro args h k out hs
  unfold pureSpec at hs ⊢
  split at hs
  · obtain ⟨r, h1, h2⟩ := altsP_first hs
    exact ⟨_, _, _, _, h2, fun k' => altsP_of h1⟩
  · cases hs
theorem conF_par {ts : List AT} {F : List (List Int) → List (Bool × SV)} {Ω Ω' : Type} : SpecPar (conSpecF ts F (Ω := Ω)) (conSpecF ts F (Ω := Ω')) := by
  intro args h k out hs
  unfold conSpecF at hs ⊢
  split at hs
  · obtain ⟨r, h1, h2⟩ := altsP_first hs
    exact ⟨_, _, _, _, h2, fun k' => altsP_of h1⟩
  · cases hs

theorem enter_fn {P : Program} {g : Nat} {fn : Func} (hf : P.funcs[g]? = some fn) (hname : (fn.name == "runtime.NumGoroutine") = false) {C : CF} (hC : coF P fn = some C) : ∀ (args : Array Value) (w : World), (callFunc g args).run P w = .ok (.enter g args) w := by
  have hbody : ∃ c, fn.body = some c := by
    unfold coF at hC
    split at hC
    · rename_i c hb; exact ⟨c, hb⟩
    · cases hC
  obtain ⟨c, hb⟩ := hbody
  intro args w
  have h1 : fn.name ≠ "runtime.NumGoroutine" := by simpa using hname
  simp [callFunc, hf, h1, hb]

theorem pureGoodL {P : Program} {g : Nat} {fn : Func} (hf : P.funcs[g]? = some fn) (hname : (fn.name == "runtime.NumGoroutine") = false) {C : CF} (hC : coF P fn = some C) {A : Ann} {e : {Ω : Type} → Env Ω} (he : GoodE P e) (hmix : P.follows .mixedOrders = true)
    {ts : List PT} {F : List SV → List (Bool × SV)}
    (hrun : ∀ az r, firstP (F az) = some r → ∃ bz r0 y H, (∀ cx w u, SRepL cx w az u → SRepL cx w bz u) ∧ sxFn (e (Ω := SV × SH)) A C bz [] (fun r h => some (r, h)) = some (r0, H) ∧ dat true H r0 = some y ∧ ∀ cx w u, SRep cx w y u → SRep cx w r u) :
    Good1 P g (fun {Ω} => pureSpec ts F (Ω := Ω)) := by
  refine ⟨fun Ω => ⟨enter_fn hf hname hC, fun args h k out hs => ?_⟩, fun Ω Ω' => pure_par⟩
  unfold pureSpec at hs
  split at hs
  · rename_i az hl
    obtain ⟨r, hF, hk⟩ := altsP_first hs
    obtain ⟨bz, r0, y, H, hbz, hrun, hdat, hle⟩ := hrun az r hF
    refine ⟨_, [], [], _, hk, ⟨Nat.le_refl _, fun _ _ _ => rfl⟩, fun cx w vals hg ha => ?_⟩
    have hfz : (cxL w cx.fz).fz = cx.fz := funext fun b => propext ⟨And.right, fun q => ⟨hg.fzlt b (.inl q), q⟩⟩
    refine (fn_calls (he.ok _) hmix hf hC hrun (cxL w cx.fz) w vals (gamL w _) (hbz _ _ _ (nrmPs_ok hfz hl ha))).mono fun e w' ⟨v, cxq, e1, gr, hr, hG⟩ => ?_
    have hsame : ∀ b, b < w.heap.size → w'.heap[b]? = w.heap[b]? := fun b hb => gr.same b (cxL_all hb)
    obtain ⟨k1, k2⟩ := fresh_data hg hsame gr.size gr.io
    have nm : (fun l => nmem l []) = fun _ => false := funext fun l => by simp [nmem]
    rw [nm]
    refine ⟨v, cxN cx w w', e1, k1, hle _ _ _ (dat_rep hG (fun _ b hb => ?_) (fun l hl => ?_) _ _ _ hdat hr), k2⟩
    · rcases Nat.lt_or_ge b w.heap.size with h1 | h1
      · refine .inl ?_
        have h2 := hG.dj b hb
        rw [gr.fr] at h2
        rcases Classical.em (cx.fz b) with h3 | h3
        · exact h3
        · exact absurd ⟨h1, h3⟩ h2
      · exact .inr ⟨h1, hG.fzlt b (.inl hb)⟩
    · refine .inr ⟨?_, hG.lt l hl⟩
      rcases Nat.lt_or_ge (cxq.th l) w.heap.size with h1 | h1
      · exact absurd (gr.hd _ (cxL_all h1)) (hG.own l hl)
      · exact h1
  · cases hs

theorem pureGood {P : Program} {g : Nat} {fn : Func} (hf : P.funcs[g]? = some fn) (hname : (fn.name == "runtime.NumGoroutine") = false) {C : CF} (hC : coF P fn = some C) {A : Ann} {e : {Ω : Type} → Env Ω} (he : GoodE P e) (hmix : P.follows .mixedOrders = true)
    {ts : List PT} {F : List SV → List (Bool × SV)}
    (hrun : ∀ az r, firstP (F az) = some r → ∃ r0 y H, sxFn (e (Ω := SV × SH)) A C az [] (fun r h => some (r, h)) = some (r0, H) ∧ dat true H r0 = some y ∧ ∀ cx w u, SRep cx w y u → SRep cx w r u) :
    Good1 P g (fun {Ω} => pureSpec ts F (Ω := Ω)) := pureGoodL hf hname hC he hmix fun az r h => by
  obtain ⟨r0, y, H, h1, h2, h3⟩ := hrun az r h
  exact ⟨az, r0, y, H, fun _ _ _ q => q, h1, h2, h3⟩

theorem conGoodF {P : Program} {g : Nat} {fn : Func} (hf : P.funcs[g]? = some fn) (hname : (fn.name == "runtime.NumGoroutine") = false) {C : CF} (hC : coF P fn = some C) {A : Ann} {e : {Ω : Type} → Env Ω} (he : GoodE P e) (hmix : P.follows .mixedOrders = true)
    {ts : List AT} {F : List (List Int) → List (Bool × SV)}
    (hrun : ∀ l r, lenAs ts l → firstP (F l) = some r → ∃ r0 y H, sxFn (e (Ω := SV × SH)) A C (encAs ts l) [] (fun r h => some (r, h)) = some (r0, H) ∧ dat false H r0 = some y ∧ ∀ cx w u, SRep cx w y u → SRep cx w r u) :
    Good1 P g (fun {Ω} => conSpecF ts F (Ω := Ω)) := by
  refine ⟨fun Ω => ⟨enter_fn hf hname hC, fun args h k out hs => ?_⟩, fun Ω Ω' => conF_par⟩
  unfold conSpecF at hs
  split at hs
  · rename_i l hl
    obtain ⟨r, hF, hk⟩ := altsP_first hs
    obtain ⟨r0, y, H, hrun, hdat, hle⟩ := hrun l r (lendAs_len hl) hF
    refine ⟨_, [], [], _, hk, ⟨Nat.le_refl _, fun _ _ _ => rfl⟩, fun cx w vals hg ha => ?_⟩
    refine (fn_calls (he.ok _) hmix hf hC hrun (cxA w) w vals (gamL w _) (lendAs_ok hg hl ha)).mono fun e w' ⟨v, cxq, e1, gr, hr, hG⟩ => ?_
    have hsame : ∀ b, b < w.heap.size → w'.heap[b]? = w.heap[b]? := fun b hb => gr.same b (cxL_all hb)
    obtain ⟨k1, k2⟩ := fresh_data hg hsame gr.size gr.io
    have nm : (fun l => nmem l []) = fun _ => false := funext fun l => by simp [nmem]
    rw [nm]
    refine ⟨v, cxN cx w w', e1, k1, hle _ _ _ (dat_rep hG (fun ha => by cases ha) (fun l hl => ?_) _ _ _ hdat hr), k2⟩
    refine .inr ⟨?_, hG.lt l hl⟩
    rcases Nat.lt_or_ge (cxq.th l) w.heap.size with h1 | h1
    · exact absurd (gr.hd _ (cxL_all h1)) (hG.own l hl)
    · exact h1
  · cases hs

/-! ### results that say less: nil lists as empty lists -/
theorem rep_nil {cx : Cx} {w : World} {k : IntKind} {u : Value} (h : SRep cx w (.d (.v (.slice none 0 0))) u) : SRep cx w (.d (.ints k [])) u := by
  simp only [SRep, DRep] at h ⊢
  exact ⟨none, 0, h.1, Nat.le_refl _, fun hn => absurd rfl hn⟩
end Go.Sx

/- The contract of slices.Grow on a nil slice of integers. -/
namespace Go.Sx.Pr
open Go Go.Sx Go.Sx.Md Go.Proofs Go.RowKit
set_option maxRecDepth 100000

end Go.Sx.Pr

namespace Go.Sx.Pr
open Go Go.Sx Go.Proofs
set_option maxRecDepth 100000
theorem mix : Try.prog.follows .mixedOrders = true := by kernel_rfl
def K106_1 : CC := .seq (.block 2 (.seq (.reg false [⟨some 45, .fa 7 (.t 1), none, 0⟩,
     ⟨some 46, .ld 1 false (.t 45), none, 0⟩,
     ⟨some 47, .bin .lss (.t 46) (.c (.d (.v (.int .u64 1)))), none, 0⟩,
     ⟨some 44, .mv (.t 47), none, 0⟩])
   (.cond 44 (.seq (.reg false [⟨some 2, .mv (.c (.d (.v (.int .i64 1)))), none, 0⟩])
     (.ret))
     (.seq (.reg false [⟨some 49, .fa 7 (.t 1), none, 0⟩,
       ⟨some 50, .ld 1 false (.t 49), none, 0⟩,
       ⟨some 51, .bin .gtr (.t 50) (.c (.d (.v (.int .u64 1048576)))), none, 0⟩,
       ⟨some 48, .mv (.t 51), none, 0⟩])
     (.cond 48 (.seq (.reg false [⟨some 2, .mv (.c (.d (.v (.int .i64 2)))), none, 0⟩])
       (.ret))
       (.skip))))))
 (.seq (.reg false [⟨some 52, .mv (.t 4), none, 0⟩,
   ⟨some 2, .mv (.t 52), none, 0⟩])
 (.ret))
def L106_2 : CC := .seq (.reg false [⟨some 31, .bin .lss (.t 30) (.c (.d (.v (.int .i64 7)))), none, 0⟩])
 (.seq (.cond 31 (.skip)
   (.exit 0))
 (.seq (.block 1 (.seq (.reg false [⟨some 32, .ixg 7 3 true (.t 29) (.t 30), none, 0⟩,
     ⟨some 6, .newc 107 [.d (.v (.int .i64 0)), .d (.v (.int .i64 0)), .d (.v (.int .i64 0))], none, 0⟩,
     ⟨none, .st 3 (.t 6) (.t 32), none, 0⟩])
   (.seq (.seq (.reg false [⟨some 33, .fa 0 (.t 6), none, 0⟩,
     ⟨some 34, .ld 1 false (.t 33), none, 0⟩,
     ⟨some 35, .fa 1 (.t 6), none, 0⟩,
     ⟨some 36, .ld 1 false (.t 35), none, 0⟩,
     ⟨some 37, .bin .lss (.t 34) (.t 36), none, 0⟩])
   (.cond 37 (.seq (.reg false [⟨some 2, .mv (.c (.d (.v (.int .i64 1)))), none, 0⟩])
     (.ret))
     (.skip)))
   (.seq (.reg false [⟨some 38, .fa 0 (.t 6), none, 0⟩,
     ⟨some 39, .ld 1 false (.t 38), none, 0⟩,
     ⟨some 40, .fa 2 (.t 6), none, 0⟩,
     ⟨some 41, .ld 1 false (.t 40), none, 0⟩,
     ⟨some 42, .bin .gtr (.t 39) (.t 41), none, 0⟩])
   (.cond 42 (.reg false [⟨some 4, .mv (.c (.d (.v (.int .i64 2)))), none, 0⟩])
     (.skip))))))
 (.reg false [⟨some 43, .bin .add (.t 30) (.c (.d (.v (.int .i64 1)))), none, 0⟩,
   ⟨some 30, .mv (.t 43), none, 0⟩])))
def K106_3 : CC := .reg false [⟨some 29, .ld 21 true (.t 3), none, 0⟩,
   ⟨some 30, .mv (.c (.d (.v (.int .i64 0)))), none, 0⟩]
def K106_4 : CC := .reg false [⟨some 4, .mv (.c (.d (.v (.int .i64 0)))), none, 0⟩]
def K106_5 : CC := .reg false [⟨some 7, .fa 0 (.t 1), none, 0⟩,
   ⟨some 8, .ld 1 false (.t 7), none, 0⟩,
   ⟨some 9, .bld [.d (.v (.int .i64 0)), .d (.v (.int .i64 0)), .d (.v (.int .i64 0))] [(0, 1, .t 8), (1, 1, .c (.d (.v (.int .i64 1)))), (2, 1, .c (.d (.v (.int .i64 8))))], none, 0⟩,
   ⟨some 10, .fa 1 (.t 1), none, 0⟩,
   ⟨some 11, .ld 1 false (.t 10), none, 0⟩,
   ⟨some 12, .bld [.d (.v (.int .i64 0)), .d (.v (.int .i64 0)), .d (.v (.int .i64 0))] [(0, 1, .t 11), (1, 1, .c (.d (.v (.int .i64 1)))), (2, 1, .c (.d (.v (.int .i64 8))))], none, 0⟩,
   ⟨some 13, .fa 2 (.t 1), none, 0⟩,
   ⟨some 14, .ld 1 false (.t 13), none, 0⟩,
   ⟨some 15, .bld [.d (.v (.int .i64 0)), .d (.v (.int .i64 0)), .d (.v (.int .i64 0))] [(0, 1, .t 14), (1, 1, .c (.d (.v (.int .i64 1)))), (2, 1, .c (.d (.v (.int .i64 16))))], none, 0⟩,
   ⟨some 16, .fa 3 (.t 1), none, 0⟩,
   ⟨some 17, .ld 1 false (.t 16), none, 0⟩,
   ⟨some 18, .bld [.d (.v (.int .i64 0)), .d (.v (.int .i64 0)), .d (.v (.int .i64 0))] [(0, 1, .t 17), (1, 1, .c (.d (.v (.int .i64 1)))), (2, 1, .c (.d (.v (.int .i64 4))))], none, 0⟩,
   ⟨some 19, .fa 4 (.t 1), none, 0⟩,
   ⟨some 20, .ld 1 false (.t 19), none, 0⟩,
   ⟨some 21, .bld [.d (.v (.int .i64 0)), .d (.v (.int .i64 0)), .d (.v (.int .i64 0))] [(0, 1, .t 20), (1, 1, .c (.d (.v (.int .i64 1)))), (2, 1, .c (.d (.v (.int .i64 32))))], none, 0⟩,
   ⟨some 22, .fa 5 (.t 1), none, 0⟩,
   ⟨some 23, .ld 1 false (.t 22), none, 0⟩,
   ⟨some 24, .bld [.d (.v (.int .i64 0)), .d (.v (.int .i64 0)), .d (.v (.int .i64 0))] [(0, 1, .t 23), (1, 1, .c (.d (.v (.int .i64 0)))), (2, 1, .c (.d (.v (.int .i64 4))))], none, 0⟩,
   ⟨some 25, .fa 6 (.t 1), none, 0⟩,
   ⟨some 26, .ld 1 false (.t 25), none, 0⟩,
   ⟨some 27, .bld [.d (.v (.int .i64 0)), .d (.v (.int .i64 0)), .d (.v (.int .i64 0))] [(0, 1, .t 26), (1, 1, .c (.d (.v (.int .i64 1)))), (2, 1, .c (.d (.v (.int .i64 8))))], none, 0⟩,
   ⟨some 28, .bld [.d (.v (.int .i64 0)), .d (.v (.int .i64 0)), .d (.v (.int .i64 0)), .d (.v (.int .i64 0)), .d (.v (.int .i64 0)), .d (.v (.int .i64 0)), .d (.v (.int .i64 0)), .d (.v (.int .i64 0)), .d (.v (.int .i64 0)), .d (.v (.int .i64 0)), .d (.v (.int .i64 0)), .d (.v (.int .i64 0)), .d (.v (.int .i64 0)), .d (.v (.int .i64 0)), .d (.v (.int .i64 0)), .d (.v (.int .i64 0)), .d (.v (.int .i64 0)), .d (.v (.int .i64 0)), .d (.v (.int .i64 0)), .d (.v (.int .i64 0)), .d (.v (.int .i64 0))] [(0, 3, .t 9), (3, 3, .t 12), (6, 3, .t 15), (9, 3, .t 18), (12, 3, .t 21), (15, 3, .t 24), (18, 3, .t 27)], none, 0⟩,
   ⟨some 3, .newc 108 [.d (.v (.int .i64 0)), .d (.v (.int .i64 0)), .d (.v (.int .i64 0)), .d (.v (.int .i64 0)), .d (.v (.int .i64 0)), .d (.v (.int .i64 0)), .d (.v (.int .i64 0)), .d (.v (.int .i64 0)), .d (.v (.int .i64 0)), .d (.v (.int .i64 0)), .d (.v (.int .i64 0)), .d (.v (.int .i64 0)), .d (.v (.int .i64 0)), .d (.v (.int .i64 0)), .d (.v (.int .i64 0)), .d (.v (.int .i64 0)), .d (.v (.int .i64 0)), .d (.v (.int .i64 0)), .d (.v (.int .i64 0)), .d (.v (.int .i64 0)), .d (.v (.int .i64 0))], none, 0⟩,
   ⟨none, .st 21 (.t 3) (.t 28), none, 0⟩]
def K106_6 : CC := .reg false [⟨some 1, .box 24 8 (.t 0), none, 0⟩,
   ⟨some 2, .mv (.c (.d (.v (.int .i64 0)))), none, 0⟩]
/-- coatcheck/plan.Check -/
def C106 : CF := ⟨1, [(2, none)],
 .seq K106_6 (.seq K106_5 (.seq K106_4 (.seq (.seq K106_3 (.block 0 (.loop L106_2))) K106_1)))⟩
theorem c106 : coF Try.prog Try.f53 = some C106 := by kernel_rfl
def A106 : Ann := { keep := [0, 1, 2, 3, 4, 6, 29, 30, 31, 37, 42, 44, 48], live := [(0, [1, 4, 29, 30])] }
def E106 {Ω : Type} : Env Ω := enil
theorem e106 : GoodE Try.prog E106 := GoodE.nil
def Z106_2 {Ω : Type} (it : Itr Ω) (K : SV → SH → Option Ω) : SE → SS → Option Ω := kblk 0 (kseq it E106 A106 K106_1 0 (kfn C106 K))
def K19_1 : CC := .seq (.reg false [⟨some 2, .mv (.c (.d (.v (.int .i64 0)))), none, 0⟩])
 (.ret)
def K19_2 : CC := .cond 78 (.seq (.reg false [⟨some 2, .mv (.c (.d (.v (.int .i64 2)))), none, 0⟩])
   (.ret))
   (.skip)
def K19_3 : CC := .reg false [⟨some 41, .fa 0 (.t 1), none, 0⟩,
   ⟨some 42, .ld 1 false (.t 41), none, 0⟩,
   ⟨some 43, .bin .gtr (.t 42) (.c (.d (.v (.int .i64 8)))), none, 0⟩,
   ⟨some 44, .mv (.t 43), none, 0⟩,
   ⟨some 45, .fa 1 (.t 1), some (44, false), 0⟩,
   ⟨some 46, .ld 1 false (.t 45), some (44, false), 0⟩,
   ⟨some 47, .bin .gtr (.t 46) (.c (.d (.v (.int .i64 8)))), some (44, false), 0⟩,
   ⟨some 48, .pick (.t 44) (.c (.d (.v (.bool true)))) (.t 47), none, 0⟩,
   ⟨some 49, .mv (.t 48), none, 0⟩,
   ⟨some 50, .fa 2 (.t 1), some (49, false), 0⟩,
   ⟨some 51, .ld 1 false (.t 50), some (49, false), 0⟩,
   ⟨some 52, .bin .gtr (.t 51) (.c (.d (.v (.int .i64 16)))), some (49, false), 0⟩,
   ⟨some 53, .pick (.t 49) (.c (.d (.v (.bool true)))) (.t 52), none, 0⟩,
   ⟨some 54, .mv (.t 53), none, 0⟩,
   ⟨some 55, .fa 3 (.t 1), some (54, false), 0⟩,
   ⟨some 56, .ld 1 false (.t 55), some (54, false), 0⟩,
   ⟨some 57, .bin .gtr (.t 56) (.c (.d (.v (.int .i64 4)))), some (54, false), 0⟩,
   ⟨some 58, .pick (.t 54) (.c (.d (.v (.bool true)))) (.t 57), none, 0⟩,
   ⟨some 59, .mv (.t 58), none, 0⟩,
   ⟨some 60, .fa 4 (.t 1), some (59, false), 0⟩,
   ⟨some 61, .ld 1 false (.t 60), some (59, false), 0⟩,
   ⟨some 62, .bin .gtr (.t 61) (.c (.d (.v (.int .i64 32)))), some (59, false), 0⟩,
   ⟨some 63, .pick (.t 59) (.c (.d (.v (.bool true)))) (.t 62), none, 0⟩,
   ⟨some 64, .mv (.t 63), none, 0⟩,
   ⟨some 65, .fa 6 (.t 1), some (64, false), 0⟩,
   ⟨some 66, .ld 1 false (.t 65), some (64, false), 0⟩,
   ⟨some 67, .bin .gtr (.t 66) (.c (.d (.v (.int .i64 8)))), some (64, false), 0⟩,
   ⟨some 68, .pick (.t 64) (.c (.d (.v (.bool true)))) (.t 67), none, 0⟩,
   ⟨some 69, .mv (.t 68), none, 0⟩,
   ⟨some 70, .fa 5 (.t 1), some (69, false), 0⟩,
   ⟨some 71, .ld 1 false (.t 70), some (69, false), 0⟩,
   ⟨some 72, .bin .gtr (.t 71) (.c (.d (.v (.int .i64 4)))), some (69, false), 0⟩,
   ⟨some 73, .pick (.t 69) (.c (.d (.v (.bool true)))) (.t 72), none, 0⟩,
   ⟨some 74, .mv (.t 73), none, 0⟩,
   ⟨some 75, .fa 7 (.t 1), some (74, false), 0⟩,
   ⟨some 76, .ld 1 false (.t 75), some (74, false), 0⟩,
   ⟨some 77, .bin .gtr (.t 76) (.c (.d (.v (.int .u64 1048576)))), some (74, false), 0⟩,
   ⟨some 78, .pick (.t 74) (.c (.d (.v (.bool true)))) (.t 77), none, 0⟩]
def K19_4 : CC := .cond 40 (.seq (.reg false [⟨some 2, .mv (.c (.d (.v (.int .i64 1)))), none, 0⟩])
   (.ret))
   (.skip)
def K19_5 : CC := .reg false [⟨some 3, .fa 0 (.t 1), none, 0⟩,
   ⟨some 4, .ld 1 false (.t 3), none, 0⟩,
   ⟨some 5, .bin .lss (.t 4) (.c (.d (.v (.int .i64 1)))), none, 0⟩,
   ⟨some 6, .mv (.t 5), none, 0⟩,
   ⟨some 7, .fa 1 (.t 1), some (6, false), 0⟩,
   ⟨some 8, .ld 1 false (.t 7), some (6, false), 0⟩,
   ⟨some 9, .bin .lss (.t 8) (.c (.d (.v (.int .i64 1)))), some (6, false), 0⟩,
   ⟨some 10, .pick (.t 6) (.c (.d (.v (.bool true)))) (.t 9), none, 0⟩,
   ⟨some 11, .mv (.t 10), none, 0⟩,
   ⟨some 12, .fa 2 (.t 1), some (11, false), 0⟩,
   ⟨some 13, .ld 1 false (.t 12), some (11, false), 0⟩,
   ⟨some 14, .bin .lss (.t 13) (.c (.d (.v (.int .i64 1)))), some (11, false), 0⟩,
   ⟨some 15, .pick (.t 11) (.c (.d (.v (.bool true)))) (.t 14), none, 0⟩,
   ⟨some 16, .mv (.t 15), none, 0⟩,
   ⟨some 17, .fa 3 (.t 1), some (16, false), 0⟩,
   ⟨some 18, .ld 1 false (.t 17), some (16, false), 0⟩,
   ⟨some 19, .bin .lss (.t 18) (.c (.d (.v (.int .i64 1)))), some (16, false), 0⟩,
   ⟨some 20, .pick (.t 16) (.c (.d (.v (.bool true)))) (.t 19), none, 0⟩,
   ⟨some 21, .mv (.t 20), none, 0⟩,
   ⟨some 22, .fa 4 (.t 1), some (21, false), 0⟩,
   ⟨some 23, .ld 1 false (.t 22), some (21, false), 0⟩,
   ⟨some 24, .bin .lss (.t 23) (.c (.d (.v (.int .i64 1)))), some (21, false), 0⟩,
   ⟨some 25, .pick (.t 21) (.c (.d (.v (.bool true)))) (.t 24), none, 0⟩,
   ⟨some 26, .mv (.t 25), none, 0⟩,
   ⟨some 27, .fa 6 (.t 1), some (26, false), 0⟩,
   ⟨some 28, .ld 1 false (.t 27), some (26, false), 0⟩,
   ⟨some 29, .bin .lss (.t 28) (.c (.d (.v (.int .i64 1)))), some (26, false), 0⟩,
   ⟨some 30, .pick (.t 26) (.c (.d (.v (.bool true)))) (.t 29), none, 0⟩,
   ⟨some 31, .mv (.t 30), none, 0⟩,
   ⟨some 32, .fa 5 (.t 1), some (31, false), 0⟩,
   ⟨some 33, .ld 1 false (.t 32), some (31, false), 0⟩,
   ⟨some 34, .bin .lss (.t 33) (.c (.d (.v (.int .i64 0)))), some (31, false), 0⟩,
   ⟨some 35, .pick (.t 31) (.c (.d (.v (.bool true)))) (.t 34), none, 0⟩,
   ⟨some 36, .mv (.t 35), none, 0⟩,
   ⟨some 37, .fa 7 (.t 1), some (36, false), 0⟩,
   ⟨some 38, .ld 1 false (.t 37), some (36, false), 0⟩,
   ⟨some 39, .bin .lss (.t 38) (.c (.d (.v (.int .u64 1)))), some (36, false), 0⟩,
   ⟨some 40, .pick (.t 36) (.c (.d (.v (.bool true)))) (.t 39), none, 0⟩]
def K19_6 : CC := .reg false [⟨some 1, .box 24 8 (.t 0), none, 0⟩,
   ⟨some 2, .mv (.c (.d (.v (.int .i64 0)))), none, 0⟩]
/-- coatcheck/coatcheckref02.Check -/
def C19 : CF := ⟨1, [(2, none)],
 .seq K19_6 (.seq (.seq K19_5 K19_4) (.seq (.seq K19_3 K19_2) K19_1))⟩
theorem c19 : coF Try.prog Try.f20 = some C19 := by kernel_rfl
def A19 : Ann := { keep := [0, 1, 2, 40, 78], live := [] }
def E19 {Ω : Type} : Env Ω := enil
theorem e19 : GoodE Try.prog E19 := GoodE.nil
def K20_1 : CC := .seq (.reg false [⟨some 74, .mv (.t 3), none, 0⟩,
   ⟨some 2, .mv (.t 74), none, 0⟩])
 (.ret)
def K20_2 : CC := .reg false [⟨some 55, .mv (.t 7), none, 0⟩,
   ⟨some 56, .bin .add (.t 55) (.c (.d (.v (.int .i64 1)))), none, 0⟩,
   ⟨some 7, .mv (.t 56), none, 0⟩]
def L20_3 : CC := .seq (.seq (.reg false [⟨some 62, .mv (.t 8), none, 0⟩,
   ⟨some 63, .fa 3 (.t 1), none, 0⟩,
   ⟨some 64, .ld 1 false (.t 63), none, 0⟩,
   ⟨some 65, .bin .lss (.t 62) (.t 64), none, 0⟩])
 (.cond 65 (.skip)
   (.exit 8)))
 (.seq (.block 9 (.reg false [⟨some 68, .mv (.t 3), none, 0⟩,
     ⟨some 69, .mv (.t 7), none, 0⟩,
     ⟨some 70, .mv (.t 8), none, 0⟩,
     ⟨some 71, .bld [.d (.v (.int .i64 0)), .d (.v (.int .i64 0)), .d (.v (.int .i64 0))] [(0, 1, .c (.d (.v (.int .i64 6)))), (1, 1, .t 69), (2, 1, .t 70)], none, 0⟩,
     ⟨some 72, .bsl 74 3 1 [.d (.v (.int .i64 0)), .d (.v (.int .i64 0)), .d (.v (.int .i64 0))] [(0, 3, .t 71)], none, 0⟩,
     ⟨some 73, .app 74 3 24 none (.t 68) (.t 72), none, 0⟩,
     ⟨some 3, .mv (.t 73), none, 0⟩]))
 (.reg false [⟨some 66, .mv (.t 8), none, 0⟩,
   ⟨some 67, .bin .add (.t 66) (.c (.d (.v (.int .i64 1)))), none, 0⟩,
   ⟨some 8, .mv (.t 67), none, 0⟩]))
def K20_4 : CC := .reg false [⟨some 8, .mv (.c (.d (.v (.int .i64 0)))), none, 0⟩]
def K20_5 : CC := .reg false [⟨some 57, .mv (.t 3), none, 0⟩,
   ⟨some 58, .mv (.t 7), none, 0⟩,
   ⟨some 59, .bld [.d (.v (.int .i64 0)), .d (.v (.int .i64 0)), .d (.v (.int .i64 0))] [(0, 1, .c (.d (.v (.int .i64 5)))), (1, 1, .t 58)], none, 0⟩,
   ⟨some 60, .bsl 74 3 1 [.d (.v (.int .i64 0)), .d (.v (.int .i64 0)), .d (.v (.int .i64 0))] [(0, 3, .t 59)], none, 0⟩,
   ⟨some 61, .app 74 3 24 none (.t 57) (.t 60), none, 0⟩,
   ⟨some 3, .mv (.t 61), none, 0⟩]
def K20_6 : CC := .seq (.reg false [⟨some 48, .mv (.t 7), none, 0⟩,
   ⟨some 49, .fa 1 (.t 1), none, 0⟩,
   ⟨some 50, .ld 1 false (.t 49), none, 0⟩,
   ⟨some 51, .fa 2 (.t 1), none, 0⟩,
   ⟨some 52, .ld 1 false (.t 51), none, 0⟩,
   ⟨some 53, .bin .mul (.t 50) (.t 52), none, 0⟩,
   ⟨some 54, .bin .lss (.t 48) (.t 53), none, 0⟩])
 (.cond 54 (.skip)
   (.exit 6))
def L20_7 : CC := .seq K20_6 (.seq (.block 7 (.seq K20_5 (.seq K20_4 (.block 8 (.loop L20_3))))) K20_2)
def K20_8 : CC := .reg false [⟨some 7, .mv (.c (.d (.v (.int .i64 0)))), none, 0⟩]
def L20_9 : CC := .seq (.seq (.reg false [⟨some 35, .mv (.t 6), none, 0⟩,
   ⟨some 36, .fa 4 (.t 1), none, 0⟩,
   ⟨some 37, .ld 1 false (.t 36), none, 0⟩,
   ⟨some 38, .bin .lss (.t 35) (.t 37), none, 0⟩])
 (.cond 38 (.skip)
   (.exit 4)))
 (.seq (.block 5 (.reg false [⟨some 41, .mv (.t 3), none, 0⟩,
     ⟨some 42, .mv (.t 6), none, 0⟩,
     ⟨some 43, .bld [.d (.v (.int .i64 0)), .d (.v (.int .i64 0)), .d (.v (.int .i64 0))] [(0, 1, .c (.d (.v (.int .i64 3)))), (1, 1, .t 42)], none, 0⟩,
     ⟨some 44, .mv (.t 6), none, 0⟩,
     ⟨some 45, .bld [.d (.v (.int .i64 0)), .d (.v (.int .i64 0)), .d (.v (.int .i64 0))] [(0, 1, .c (.d (.v (.int .i64 4)))), (1, 1, .t 44)], none, 0⟩,
     ⟨some 46, .bsl 74 3 2 [.d (.v (.int .i64 0)), .d (.v (.int .i64 0)), .d (.v (.int .i64 0))] [(0, 3, .t 43), (3, 3, .t 45)], none, 0⟩,
     ⟨some 47, .app 74 3 24 none (.t 41) (.t 46), none, 0⟩,
     ⟨some 3, .mv (.t 47), none, 0⟩]))
 (.reg false [⟨some 39, .mv (.t 6), none, 0⟩,
   ⟨some 40, .bin .add (.t 39) (.c (.d (.v (.int .i64 1)))), none, 0⟩,
   ⟨some 6, .mv (.t 40), none, 0⟩]))
def K20_10 : CC := .reg false [⟨some 6, .mv (.c (.d (.v (.int .i64 0)))), none, 0⟩]
def L20_11 : CC := .seq (.seq (.reg false [⟨some 24, .mv (.t 5), none, 0⟩,
   ⟨some 25, .fa 1 (.t 1), none, 0⟩,
   ⟨some 26, .ld 1 false (.t 25), none, 0⟩,
   ⟨some 27, .bin .lss (.t 24) (.t 26), none, 0⟩])
 (.cond 27 (.skip)
   (.exit 2)))
 (.seq (.block 3 (.reg false [⟨some 30, .mv (.t 3), none, 0⟩,
     ⟨some 31, .mv (.t 5), none, 0⟩,
     ⟨some 32, .bld [.d (.v (.int .i64 0)), .d (.v (.int .i64 0)), .d (.v (.int .i64 0))] [(0, 1, .c (.d (.v (.int .i64 2)))), (1, 1, .t 31)], none, 0⟩,
     ⟨some 33, .bsl 74 3 1 [.d (.v (.int .i64 0)), .d (.v (.int .i64 0)), .d (.v (.int .i64 0))] [(0, 3, .t 32)], none, 0⟩,
     ⟨some 34, .app 74 3 24 none (.t 30) (.t 33), none, 0⟩,
     ⟨some 3, .mv (.t 34), none, 0⟩]))
 (.reg false [⟨some 28, .mv (.t 5), none, 0⟩,
   ⟨some 29, .bin .add (.t 28) (.c (.d (.v (.int .i64 1)))), none, 0⟩,
   ⟨some 5, .mv (.t 29), none, 0⟩]))
def K20_12 : CC := .reg false [⟨some 5, .mv (.c (.d (.v (.int .i64 0)))), none, 0⟩]
def L20_13 : CC := .seq (.seq (.reg false [⟨some 13, .mv (.t 4), none, 0⟩,
   ⟨some 14, .fa 0 (.t 1), none, 0⟩,
   ⟨some 15, .ld 1 false (.t 14), none, 0⟩,
   ⟨some 16, .bin .lss (.t 13) (.t 15), none, 0⟩])
 (.cond 16 (.skip)
   (.exit 0)))
 (.seq (.block 1 (.reg false [⟨some 19, .mv (.t 3), none, 0⟩,
     ⟨some 20, .mv (.t 4), none, 0⟩,
     ⟨some 21, .bld [.d (.v (.int .i64 0)), .d (.v (.int .i64 0)), .d (.v (.int .i64 0))] [(0, 1, .c (.d (.v (.int .i64 1)))), (1, 1, .t 20)], none, 0⟩,
     ⟨some 22, .bsl 74 3 1 [.d (.v (.int .i64 0)), .d (.v (.int .i64 0)), .d (.v (.int .i64 0))] [(0, 3, .t 21)], none, 0⟩,
     ⟨some 23, .app 74 3 24 none (.t 19) (.t 22), none, 0⟩,
     ⟨some 3, .mv (.t 23), none, 0⟩]))
 (.reg false [⟨some 17, .mv (.t 4), none, 0⟩,
   ⟨some 18, .bin .add (.t 17) (.c (.d (.v (.int .i64 1)))), none, 0⟩,
   ⟨some 4, .mv (.t 18), none, 0⟩]))
def K20_14 : CC := .reg false [⟨some 4, .mv (.c (.d (.v (.int .i64 0)))), none, 0⟩]
def K20_15 : CC := .reg false [⟨some 9, .bld [.d (.v (.int .i64 0)), .d (.v (.int .i64 0)), .d (.v (.int .i64 0))] [(0, 1, .c (.d (.v (.int .i64 0)))), (1, 1, .c (.d (.v (.int .i64 0))))], none, 0⟩,
   ⟨some 10, .bld [.d (.v (.int .i64 0)), .d (.v (.int .i64 0)), .d (.v (.int .i64 0))] [(0, 1, .c (.d (.v (.int .i64 0)))), (1, 1, .c (.d (.v (.int .i64 1))))], none, 0⟩,
   ⟨some 11, .bld [.d (.v (.int .i64 0)), .d (.v (.int .i64 0)), .d (.v (.int .i64 0))] [(0, 1, .c (.d (.v (.int .i64 0)))), (1, 1, .c (.d (.v (.int .i64 2))))], none, 0⟩,
   ⟨some 12, .bsl 74 3 3 [.d (.v (.int .i64 0)), .d (.v (.int .i64 0)), .d (.v (.int .i64 0))] [(0, 3, .t 9), (3, 3, .t 10), (6, 3, .t 11)], none, 0⟩,
   ⟨some 3, .mv (.t 12), none, 0⟩]
def K20_16 : CC := .reg false [⟨some 1, .box 24 8 (.t 0), none, 0⟩,
   ⟨some 2, .mv (.c (.d (.v (.slice none 0 0)))), none, 0⟩]
/-- coatcheck/coatcheckref02.All -/
def C20 : CF := ⟨1, [(2, none)],
 .seq K20_16 (.seq K20_15 (.seq (.seq K20_14 (.block 0 (.loop L20_13))) (.seq (.seq K20_12 (.block 2 (.loop L20_11))) (.seq (.seq K20_10 (.block 4 (.loop L20_9))) (.seq (.seq K20_8 (.block 6 (.loop L20_7))) K20_1)))))⟩
theorem c20 : coF Try.prog Try.f19 = some C20 := by kernel_rfl
def A20 : Ann := { keep := [0, 1, 2, 3, 4, 5, 6, 7, 8, 16, 27, 38, 54, 65], live := [(0, [1, 3, 4]), (2, [1, 3, 5]), (4, [1, 3, 6]), (6, [1, 3, 7]), (8, [1, 3, 7, 8])] }
def E20 {Ω : Type} : Env Ω := enil
theorem e20 : GoodE Try.prog E20 := GoodE.nil
def Z20_3 {Ω : Type} (it : Itr Ω) (K : SE → SS → Option Ω) : SE → SS → Option Ω := kblk 8 (kblk 7 (kseq it E20 A20 K20_2 6 (K)))
def Z20_7 {Ω : Type} (it : Itr Ω) (K : SV → SH → Option Ω) : SE → SS → Option Ω := kblk 6 (kseq it E20 A20 K20_1 0 (kfn C20 K))
def Z20_9 {Ω : Type} (it : Itr Ω) (K : SV → SH → Option Ω) : SE → SS → Option Ω := kblk 4 (kseq it E20 A20 (.seq (.seq K20_8 (.block 6 (.loop L20_7))) K20_1) 0 (kfn C20 K))
def Z20_11 {Ω : Type} (it : Itr Ω) (K : SV → SH → Option Ω) : SE → SS → Option Ω := kblk 2 (kseq it E20 A20 (.seq (.seq K20_10 (.block 4 (.loop L20_9))) (.seq (.seq K20_8 (.block 6 (.loop L20_7))) K20_1)) 0 (kfn C20 K))
def Z20_13 {Ω : Type} (it : Itr Ω) (K : SV → SH → Option Ω) : SE → SS → Option Ω := kblk 0 (kseq it E20 A20 (.seq (.seq K20_12 (.block 2 (.loop L20_11))) (.seq (.seq K20_10 (.block 4 (.loop L20_9))) (.seq (.seq K20_8 (.block 6 (.loop L20_7))) K20_1))) 0 (kfn C20 K))
/-- slices.Clone[[]uint64,uint64] -/
def C65 : CF := ⟨1, [(2, none)],
 .seq (.reg false [⟨some 2, .mv (.c (.d (.v (.slice none 0 0)))), none, 0⟩])
 (.seq (.seq (.reg false [⟨some 3, .mv (.t 0), none, 0⟩,
   ⟨some 4, .eq .slc false (.t 3) (.c (.d (.v (.slice none 0 0)))), none, 0⟩])
 (.cond 4 (.seq (.reg false [⟨some 2, .mv (.c (.d (.v (.slice none 0 0)))), none, 0⟩])
   (.ret))
   (.skip)))
 (.seq (.reg false [⟨some 5, .bsl 22 1 0 [.d (.v (.int .u64 0))] [], none, 0⟩,
   ⟨some 6, .mv (.t 0), none, 0⟩,
   ⟨some 7, .app 22 1 8 (some .u64) (.t 5) (.t 6), none, 0⟩,
   ⟨some 2, .mv (.t 7), none, 0⟩])
 (.ret)))⟩
theorem c65 : coF Try.prog Try.f27 = some C65 := by kernel_rfl
def A65 : Ann := { keep := [0, 2, 4], live := [] }
def E65 {Ω : Type} : Env Ω := enil
theorem e65 : GoodE Try.prog E65 := GoodE.nil
end Go.Sx.Pr
