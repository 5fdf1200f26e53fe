/- Pure contracts: functions of data, known by their results as data; nothing of the caller's memory changes. -/
import Derived.Test.YtaejdljgfmclpaaGreatSxCon3
import Derived.Test.YtaejdljgfmclpaaGreatSxMem
import Derived.Test.YtaejdljgfmclpaaGreatR6
import Derived.Test.YtaejdljgfmclpaaGreatP1
import Derived.Lib.AppendZeros
import Derived.Lib.Walk
import Derived.Test.YtaejdljgfmclpaaGreatRows
import Derived.KernelRfl
import Derived.Test.YtaejdljgfmclpaaGreatR6
import Derived.Test.YtaejdljgfmclpaaGreatSxMem
import Derived.Test.YtaejdljgfmclpaaGreatSxCon3
set_option linter.all false
set_option linter.unusedVariables false
set_option linter.unusedSimpArgs false
set_option linter.unnecessarySimpa false
namespace Go.Sx

/-! ### results as data -/
 mutual
/-- Values without locs and without data behind them. -/
def flt0 : SV → Bool
  | .d (.v _) => true
  | .fn _ a b => flt0L a && flt0L b
  | .agg c => flt0L c
  | .tup c => flt0L c
  | _ => false
def flt0L : List SV → Bool
  | [] => true
  | x :: r => flt0 x && flt0L r
end
 mutual
/-- Values that point to boxes of such. -/
def dat1 (h : SH) : SV → Option SV
  | .d (.v x) => some (.d (.v x))
  | .ptr l o => match hget h l with
    | .cells _ c => bif flt0L c then some (.rc c o) else none
    | _ => none
  | .fn g a b => match dat1L h a, dat1L h b with
    | some a', some b' => some (.fn g a' b')
    | _, _ => none
  | .agg c => match dat1L h c with | some c' => some (.agg c') | none => none
  | _ => none
def dat1L (h : SH) : List SV → Option (List SV)
  | [] => some []
  | x :: r => match dat1 h x, dat1L h r with
    | some y, some s => some (y :: s)
    | _, _ => none
end
def dat0 (h : SH) : List (Value × SV) → Option (List SV)
  | [] => some []
  | (_, x) :: r => match dat0 h r, dat1 h x with
    | some s, some y => some (y :: s)
    | _, _ => none
section
variable {cx cx' : Cx} {w w' : World}
 mutual
theorem flt0_rep : ∀ (x : SV) (u : Value), flt0 x = true → SRep cx w x u → SRep cx' w' x u
  | .d (.v x), u, _, h => by simp only [SRep, DRep] at h ⊢; exact h
  | .d (.ints _ _), u, e, h | .d (.sl _ _ _), u, e, h => by simp [flt0] at e
  | .ptr _ _, u, e, h | .pe _ _ _, u, e, h | .rp _ _ _, u, e, h | .own _, u, e, h | .cs _ _ _ _ _, u, e, h | .mp _, u, e, h | .md _ _, u, e, h | .rc _ _, u, e, h | .top, u, e, h => by simp [flt0] at e
  | .fn g a b, u, e, h => by
      simp only [flt0, Bool.and_eq_true] at e
      simp only [SRep] at h ⊢
      obtain ⟨a', b', e1, h1, h2⟩ := h
      exact ⟨a', b', e1, flt0L_rep a a' e.1 h1, flt0L_rep b b' e.2 h2⟩
  | .agg c, u, e, h => by
      simp only [flt0] at e
      simp only [SRep] at h ⊢
      obtain ⟨c', e1, h1⟩ := h
      exact ⟨c', e1, flt0L_rep c c' e h1⟩
  | .tup c, u, e, h => by
      simp only [flt0] at e
      simp only [SRep] at h ⊢
      obtain ⟨c', e1, h1⟩ := h
      exact ⟨c', e1, flt0L_rep c c' e h1⟩
theorem flt0L_rep : ∀ (c : List SV) (c' : List Value), flt0L c = true → SRepL cx w c c' → SRepL cx' w' c c'
  | [], [], _, _ => by simp only [SRepL]
  | x :: r, v :: vs, e, h => by
      simp only [flt0L, Bool.and_eq_true] at e
      simp only [SRepL] at h ⊢
      exact ⟨flt0_rep x v e.1 h.1, flt0L_rep r vs e.2 h.2⟩
  | [], _ :: _, _, h => by simp [SRepL] at h
  | _ :: _, [], _, h => by simp [SRepL] at h
end
end
section
variable {cxq cx' : Cx} {H : SH} {w : World}
 mutual
theorem dat1_rep (hG : Gam cxq H w) (hO : ∀ l, liv cxq H l → cx'.fz (cxq.th l)) : ∀ (x y : SV) (u : Value), dat1 H x = some y → SRep cxq w x u → SRep cx' w y u
  | .d (.v x), y, u, e, h => by simp only [dat1, Option.some.injEq] at e; subst e; simp only [SRep, DRep] at h ⊢; exact h
  | .d (.ints _ _), y, u, e, h | .d (.sl _ _ _), y, u, e, h => by simp [dat1] at e
  | .pe _ _ _, y, u, e, h | .rp _ _ _, y, u, e, h | .own _, y, u, e, h | .cs _ _ _ _ _, y, u, e, h | .mp _, y, u, e, h | .md _ _, y, u, e, h | .rc _ _, y, u, e, h | .tup _, y, u, e, h | .top, y, u, e, h => by simp [dat1] at e
  | .ptr l o, y, u, e, h => by
      simp only [dat1] at e
      have hobj := hG.obj l
      simp only [SRep] at h
      split at e
      · rename_i t c hl
        obtain ⟨hf, e⟩ := cond_some e
        simp only [Option.some.injEq] at e; subst e
        rw [hl] at hobj
        obtain ⟨t', c', hb, hc⟩ := hobj
        simp only [SRep]
        refine ⟨cxq.th l, c', h.2, hO l (by simp [liv, hl]), fun j v hv => ?_, flt0L_rep c c' hf hc⟩
        simp [World.cell?, ad, hb, hv]
      · cases e
  | .fn g p q, y, u, e, h => by
      simp only [dat1] at e
      split at e
      · rename_i p' q' hp hq
        simp only [Option.some.injEq] at e; subst e
        simp only [SRep] at h ⊢
        obtain ⟨a', b', e1, h1, h2⟩ := h
        exact ⟨a', b', e1, dat1L_rep hG hO p p' a' hp h1, dat1L_rep hG hO q q' b' hq h2⟩
      · cases e
  | .agg c, y, u, e, h => by
      simp only [dat1] at e
      split at e
      · rename_i c' hc
        simp only [Option.some.injEq] at e; subst e
        simp only [SRep] at h ⊢
        obtain ⟨v, e1, h1⟩ := h
        exact ⟨v, e1, dat1L_rep hG hO c c' v hc h1⟩
      · cases e
theorem dat1L_rep (hG : Gam cxq H w) (hO : ∀ l, liv cxq H l → cx'.fz (cxq.th l)) : ∀ (x y : List SV) (u : List Value), dat1L H x = some y → SRepL cxq w x u → SRepL cx' w y u
  | [], y, u, e, h => by simp only [dat1L, Option.some.injEq] at e; subst e; cases u with
    | nil => simp only [SRepL]
    | cons => simp [SRepL] at h
  | x :: r, y, u, e, h => by
      simp only [dat1L] at e
      split at e
      · rename_i y' s' h1 h2
        simp only [Option.some.injEq] at e; subst e
        cases u with
        | nil => simp [SRepL] at h
        | cons v vs =>
          simp only [SRepL] at h ⊢
          exact ⟨dat1_rep hG hO x y' v h1 h.1, dat1L_rep hG hO r s' vs h2 h.2⟩
      · cases e
end
theorem dat0_rep (hG : Gam cxq H w) (hO : ∀ l, liv cxq H l → cx'.fz (cxq.th l)) : ∀ {es : List (Value × SV)} {xs : List SV} {l : List (Value × Value)}, dat0 H es = some xs → SRepE cxq w es l → l = (es.map (·.1)).zip (l.map (·.2)) ∧ SRepL cx' w xs (l.map (·.2)) ∧ (l.map (·.2)).length = (es.map (·.1)).length
  | [], xs, [], e, _ => by simp only [dat0, Option.some.injEq] at e; subst e; simp [SRepL]
  | [], xs, _ :: _, e, h => by simp [SRepE] at h
  | (q, x) :: r, xs, [], e, h => by simp [SRepE] at h
  | (q, x) :: r, xs, (q', v) :: l, e, h => by
      simp only [dat0] at e
      split at e
      · rename_i s y hs hy
        simp only [Option.some.injEq] at e; subst e
        simp only [SRepE] at h
        obtain ⟨rfl, h1, h2⟩ := h
        obtain ⟨k1, k2, k3⟩ := dat0_rep hG hO hs h2
        refine ⟨?_, ?_, by simpa using k3⟩
        · simp only [List.map_cons, List.zip_cons_cons, List.cons.injEq, true_and]; exact k1
        · simp only [List.map_cons, SRepL]; exact ⟨dat1_rep hG hO x y v hy h1, k2⟩
      · cases e
end
 mutual
/-- A result as data: rows that the callee made become data; a: data of the arguments may stand in it. -/
def dat (a : Bool) (h : SH) : SV → Option SV
  | .d (.v x) => some (.d (.v x))
  | .d x => bif a then some (.d x) else none
  | .own l => match hget h l with
    | .rowi _ k xs => some (.d (.ints k xs))
    | .row _ sz n f => bif a then some (.d (.sl sz n f)) else none
    | _ => none
  | .fn g x y => match datL a h x, datL a h y with
    | some x', some y' => some (.fn g x' y')
    | _, _ => none
  | .agg c => match datL a h c with | some c' => some (.agg c') | none => none
  | .tup c => match datL a h c with | some c' => some (.tup c') | none => none
  | .top => some .top
  | .mp l => match hget h l with
    | .maps es => match dat0 h es with | some xs => some (.md (es.map (·.1)) xs) | none => none
    | _ => none
  | _ => none
def datL (a : Bool) (h : SH) : List SV → Option (List SV)
  | [] => some []
  | x :: r => match dat a h x, datL a h r with
    | some y, some s => some (y :: s)
    | _, _ => none
end

section
variable {a : Bool} {cxq cx' : Cx} {H : SH} {w : World}
 mutual
theorem dat_rep (hG : Gam cxq H w) (hA : a = true → ∀ b, cxq.fz b → cx'.fz b) (hO : ∀ l, liv cxq H l → cx'.fz (cxq.th l)) : ∀ (x y : SV) (u : Value), dat a H x = some y → SRep cxq w x u → SRep cx' w y u
  | .d (.v x), y, u, e, h => by simp only [dat, Option.some.injEq] at e; subst e; simp only [SRep, DRep] at h ⊢; exact h
  | .d (.ints k l), y, u, e, h => by
      simp only [dat] at e
      cases ha : a with
      | false => rw [ha] at e; cases e
      | true =>
        rw [ha] at e; simp only [cond_true, Option.some.injEq] at e; subst e
        simp only [SRep] at h ⊢
        exact DRep.mono (hA ha) (fun _ _ => rfl) _ _ h
  | .d (.sl sz n f), y, u, e, h => by
      simp only [dat] at e
      cases ha : a with
      | false => rw [ha] at e; cases e
      | true =>
        rw [ha] at e; simp only [cond_true, Option.some.injEq] at e; subst e
        simp only [SRep] at h ⊢
        exact DRep.mono (hA ha) (fun _ _ => rfl) _ _ h
  | .own l, y, u, e, h => by
      simp only [dat] at e
      have hobj := hG.obj l
      simp only [SRep] at h
      split at e
      · rename_i t k xs hl
        simp only [Option.some.injEq] at e; subst e
        rw [hl] at hobj
        obtain ⟨hln, hrs, hcp, hz, hh⟩ := hobj
        simp only [SRep, DRep]
        refine ⟨_, _, by rw [← hln]; exact h.2, hcp, fun hn => ?_⟩
        have hpos : 0 < xs.length := List.length_pos_iff.2 hn
        cases hnl : cxq.nl l with
        | true => have := hz hnl; omega
        | false =>
          obtain ⟨t', c', hb, hs, hc⟩ := hh hnl
          refine ⟨cxq.th l, 0, by simp, hO l (by simp [liv, hl, hnl]), fun i hi => ?_⟩
          simp only [World.cell?, ad, hb, Nat.zero_add]
          exact hc i hi
      · rename_i t sz n f hl
        cases ha : a with
        | false => rw [ha] at e; cases e
        | true =>
          rw [ha] at e; simp only [cond_true, Option.some.injEq] at e; subst e
          rw [hl] at hobj
          obtain ⟨hln, hrs, hcp, hz, hh⟩ := hobj
          simp only [SRep, DRep]
          refine ⟨_, _, by rw [← hln]; exact h.2, hcp, fun hn => ?_⟩
          cases hnl : cxq.nl l with
          | true => have := hz hnl; omega
          | false =>
            obtain ⟨t', c', hb, hs, hc⟩ := hh hnl
            refine ⟨cxq.th l, 0, by simp, hO l (by simp [liv, hl, hnl]), fun i hi j hj => ?_⟩
            obtain ⟨x, hx, hd⟩ := hc i hi j hj
            exact ⟨x, by simp [World.cell?, ad, hb, hx], DRep.mono (hA ha) (fun _ _ => rfl) _ _ hd⟩
      · cases e
  | .fn g p q, y, u, e, h => by
      simp only [dat] at e
      split at e
      · rename_i p' q' hp hq
        simp only [Option.some.injEq] at e; subst e
        simp only [SRep] at h ⊢
        obtain ⟨a', b', e1, h1, h2⟩ := h
        exact ⟨a', b', e1, datL_rep hG hA hO p p' a' hp h1, datL_rep hG hA hO q q' b' hq h2⟩
      · cases e
  | .agg c, y, u, e, h => by
      simp only [dat] at e
      split at e
      · rename_i c' hc
        simp only [Option.some.injEq] at e; subst e
        simp only [SRep] at h ⊢
        obtain ⟨v, e1, h1⟩ := h
        exact ⟨v, e1, datL_rep hG hA hO c c' v hc h1⟩
      · cases e
  | .tup c, y, u, e, h => by
      simp only [dat] at e
      split at e
      · rename_i c' hc
        simp only [Option.some.injEq] at e; subst e
        simp only [SRep] at h ⊢
        obtain ⟨v, e1, h1⟩ := h
        exact ⟨v, e1, datL_rep hG hA hO c c' v hc h1⟩
      · cases e
  | .top, y, u, e, h => by simp only [dat, Option.some.injEq] at e; subst e; simp only [SRep]
  | .ptr _ _, y, u, e, h | .pe _ _ _, y, u, e, h | .rp _ _ _, y, u, e, h | .cs _ _ _ _ _, y, u, e, h | .md _ _, y, u, e, h | .rc _ _, y, u, e, h => by simp [dat] at e
  | .mp l, y, u, e, h => by
      simp only [dat] at e
      have hobj := hG.obj l
      simp only [SRep] at h
      split at e
      · rename_i es hl
        split at e
        · rename_i xs hx
          simp only [Option.some.injEq] at e; subst e
          rw [hl] at hobj
          obtain ⟨el, c, hb, hent⟩ := hobj
          obtain ⟨k1, k2, k3⟩ := dat0_rep (cx' := cx') hG hO hx hent
          simp only [SRep]
          exact ⟨_, el, c, _, h.2, hO l (by simp [liv, hl]), hb, k1, k3, k2⟩
        · cases e
      · cases e
theorem datL_rep (hG : Gam cxq H w) (hA : a = true → ∀ b, cxq.fz b → cx'.fz b) (hO : ∀ l, liv cxq H l → cx'.fz (cxq.th l)) : ∀ (x y : List SV) (u : List Value), datL a H x = some y → SRepL cxq w x u → SRepL cx' w y u
  | [], y, u, e, h => by simp only [datL, Option.some.injEq] at e; subst e; cases u with
    | nil => simp only [SRepL]
    | cons => simp [SRepL] at h
  | x :: r, y, u, e, h => by
      simp only [datL] at e
      split at e
      · rename_i y' s' h1 h2
        simp only [Option.some.injEq] at e; subst e
        cases u with
        | nil => simp [SRepL] at h
        | cons v vs =>
          simp only [SRepL] at h ⊢
          exact ⟨dat_rep hG hA hO x y' v h1 h.1, datL_rep hG hA hO r s' vs h2 h.2⟩
      · cases e
end
end

/-- What is new is data from now on. -/
def cxN (cx : Cx) (w w' : World) : Cx := { cx with fz := fun b => cx.fz b ∨ (w.heap.size ≤ b ∧ b < w'.heap.size) }

theorem fresh_data {cx : Cx} {h : SH} {w w' : World} (hg : Gam cx h w) (hsame : ∀ b, b < w.heap.size → w'.heap[b]? = w.heap[b]?) (hsz : w.heap.size ≤ w'.heap.size) (hio : Io w w') : Grow0 cx w (cxN cx w w') w' ∧ Gam (cxN cx w w') h w' := by
  have gr2 : Grow0 cx w (cxN cx w w') w' := ⟨fun _ hb => .inl hb, fun b hb => hsame b (hg.fzlt b hb), hsz, fun l hl _ => ⟨hl, rfl, rfl, rfl, rfl, rfl⟩, rfl, hio⟩
  have hlv : ∀ l, liv (cxN cx w w') h l → liv cx h l := fun l hl => hl
  refine ⟨gr2, ⟨hg.n, fun m => ?_, fun m hm => Nat.lt_of_lt_of_le (hg.lt m (hlv m hm)) hsz, fun m hm hhd => ?_, fun a b ha hb => hg.inj a b (hlv a ha) (hlv b hb), fun b hb => ?_, fun b hb hfr => ?_⟩⟩
  · rcases Nat.lt_or_ge m h.length with hm | hm
    · exact ORep.keep (h := h) gr2 (hg.n ▸ hm) _ rfl (fun hv => hsame _ (hg.lt m hv)) (hg.obj m)
    · rw [hget_ge hm]; trivial
  · have h1 := hg.lt m (hlv m hm)
    rcases hhd with (h2 | ⟨h2, h3⟩) | h2
    · exact hg.own m (hlv m hm) (.inl h2)
    · simp only [cxN] at h2; omega
    · exact hg.own m (hlv m hm) (.inr h2)
  · rcases hb with (h2 | ⟨h2, h3⟩) | h2
    · exact Nat.lt_of_lt_of_le (hg.fzlt b (.inl h2)) hsz
    · exact h3
    · exact Nat.lt_of_lt_of_le (hg.fzlt b (.inr h2)) hsz
  · rcases hb with h2 | ⟨h2, h3⟩
    · exact hg.dj b h2 hfr
    · have := hg.fzlt b (.inr hfr); omega

/-! ### arguments: data -/
inductive PT where
  | any
  | drop
  | g (cts : List CT)
  | s (k : IntKind)

 mutual
def nlc : SV → Bool
  | .d _ | .rp _ _ _ | .top => true
  | .fn _ a b => nlcL a && nlcL b
  | .agg c | .tup c | .md _ c | .rc c _ => nlcL c
  | _ => false
def nlcL : List SV → Bool
  | [] => true
  | x :: r => nlc x && nlcL r
end

def nrmP : PT → SV → Option SV
  | .any, x => bif nlc x then some x else none
  | .drop, _ => some .top
  | .g cs, .agg c => match nrmC cs c with | some c' => some (.agg c') | none => none
  | .s k, .d (.ints k' l) => bif kEq k k' then some (.d (.ints k l)) else none
  | .s k, .d (.v (.slice none 0 0)) => some (.d (.ints k []))
  | .s k, .d (.v (.slice (some _) 0 _)) => some (.d (.ints k []))
  | _, _ => none
def nrmPs : List PT → List SV → Option (List SV)
  | [], [] => some []
  | t :: ts, x :: r => match nrmP t x, nrmPs ts r with
    | some y, some s => some (y :: s)
    | _, _ => none
  | _, _ => none

section
variable {cx cx' : Cx} {w : World}
 mutual
theorem nlc_ok (hf : cx'.fz = cx.fz) : ∀ (x : SV) (u : Value), nlc x = true → SRep cx w x u → SRep cx' w x u
  | .d x, u, _, h => by simp only [SRep] at h ⊢; rw [hf]; exact h
  | .rp sz f o, u, _, h => by simp only [SRep] at h ⊢; rw [hf]; exact h
  | .top, u, _, _ => by simp only [SRep]
  | .fn g a b, u, hn, h => by
      simp only [nlc, Bool.and_eq_true] at hn
      simp only [SRep] at h ⊢
      obtain ⟨a', b', e, h1, h2⟩ := h
      exact ⟨a', b', e, nlcL_ok hf a a' hn.1 h1, nlcL_ok hf b b' hn.2 h2⟩
  | .agg c, u, hn, h => by
      simp only [nlc] at hn
      simp only [SRep] at h ⊢
      obtain ⟨c', e, h1⟩ := h
      exact ⟨c', e, nlcL_ok hf c c' hn h1⟩
  | .tup c, u, hn, h => by
      simp only [nlc] at hn
      simp only [SRep] at h ⊢
      obtain ⟨c', e, h1⟩ := h
      exact ⟨c', e, nlcL_ok hf c c' hn h1⟩
  | .md ks c, u, hn, h => by
      simp only [nlc] at hn
      simp only [SRep] at h ⊢
      obtain ⟨b, e, c', vs, eu, hb, hw, hl, hk, hc⟩ := h
      exact ⟨b, e, c', vs, eu, by rw [hf]; exact hb, hw, hl, hk, nlcL_ok hf c vs hn hc⟩
  | .ptr _ _, u, hn, _ | .pe _ _ _, u, hn, _ | .own _, u, hn, _ | .cs _ _ _ _ _, u, hn, _ | .mp _, u, hn, _ => by simp [nlc] at hn
  | .rc c o, u, hn, h => by
      simp only [nlc] at hn
      simp only [SRep] at h ⊢
      obtain ⟨b, vs, eu, hb, hw, hc⟩ := h
      exact ⟨b, vs, eu, by rw [hf]; exact hb, hw, nlcL_ok hf c vs hn hc⟩
theorem nlcL_ok (hf : cx'.fz = cx.fz) : ∀ (x : List SV) (u : List Value), nlcL x = true → SRepL cx w x u → SRepL cx' w x u
  | [], [], _, _ => by simp only [SRepL]
  | x :: r, v :: vs, hn, h => by
      simp only [nlcL, Bool.and_eq_true] at hn
      simp only [SRepL] at h ⊢
      exact ⟨nlc_ok hf x v hn.1 h.1, nlcL_ok hf r vs hn.2 h.2⟩
  | [], _ :: _, _, h => by simp [SRepL] at h
  | _ :: _, [], _, h => by simp [SRepL] at h
end

theorem nrmP_ok (hf : cx'.fz = cx.fz) {t : PT} {x y : SV} {u : Value} (e : nrmP t x = some y) (h : SRep cx w x u) : SRep cx' w y u := by
  unfold nrmP at e
  split at e
  · obtain ⟨hn, e⟩ := cond_some e
    simp only [Option.some.injEq] at e; subst e
    exact nlc_ok hf _ _ hn h
  · simp only [Option.some.injEq] at e; subst e
    simp only [SRep]
  · split at e
    · rename_i c' hc
      simp only [Option.some.injEq] at e; subst e
      simp only [SRep] at h ⊢
      obtain ⟨v, e1, h1⟩ := h
      exact ⟨v, e1, nrmC_ok hf hc h1⟩
    · cases e
  · obtain ⟨hk, e'⟩ := cond_some e
    have := kEq_eq hk; subst this
    simp only [Option.some.injEq] at e'; subst e'
    simp only [SRep] at h ⊢; rw [hf]; exact h
  · simp only [Option.some.injEq] at e; subst e
    simp only [SRep, DRep] at h ⊢
    exact ⟨none, 0, h.1, Nat.le_refl _, fun hn => absurd rfl hn⟩
  · rename_i b c
    simp only [Option.some.injEq] at e; subst e
    simp only [SRep, DRep] at h ⊢
    exact ⟨_, _, h.1, Nat.zero_le _, fun hn => absurd rfl hn⟩
  · cases e
theorem nrmPs_ok (hf : cx'.fz = cx.fz) : ∀ {ts : List PT} {x y : List SV} {u : List Value}, nrmPs ts x = some y → SRepL cx w x u → SRepL cx' w y u
  | [], [], y, u, e, h => by
    simp only [nrmPs, Option.some.injEq] at e; subst e
    cases u with
    | nil => simp only [SRepL]
    | cons => simp [SRepL] at h
  | t :: ts, x :: r, y, u, e, h => by
    simp only [nrmPs] at e
    split at e
    · rename_i y' s' h1 h2
      simp only [Option.some.injEq] at e; subst e
      cases u with
      | nil => simp [SRepL] at h
      | cons v vs =>
        simp only [SRepL] at h ⊢
        exact ⟨nrmP_ok hf h1 h.1, nrmPs_ok hf h2 h.2⟩
    · cases e
  | [], _ :: _, _, _, e, _ => by simp [nrmPs] at e
  | _ :: _, [], _, _, e, _ => by simp [nrmPs] at e
end

/-! ### the contracts -/
def altsP {Ω : Type} (k : SV → List Nat → List Nat → SH → Option Ω) (h : SH) : List (Bool × SV) → Option Ω
  | [] => none
  | (g, r) :: rest => br g (k r [] [] h) (altsP k h rest)
def firstP : List (Bool × SV) → Option SV
  | [] => none
  | (g, r) :: rest => bif g then some r else firstP rest
theorem altsP_first {Ω : Type} {k : SV → List Nat → List Nat → SH → Option Ω} {h : SH} {out : Ω} : ∀ {L : List (Bool × SV)}, altsP k h L = some out → ∃ r, firstP L = some r ∧ k r [] [] h = some out
  | [], e => by cases e
  | (g, r) :: rest, e => by
    simp only [altsP] at e
    rcases br_some e with ⟨rfl, e⟩ | ⟨rfl, e⟩
    · exact ⟨r, rfl, e⟩
    · obtain ⟨r', h1, h2⟩ := altsP_first e
      exact ⟨r', h1, h2⟩
theorem altsP_of {Ω : Type} {k : SV → List Nat → List Nat → SH → Option Ω} {h : SH} : ∀ {L : List (Bool × SV)} {r : SV}, firstP L = some r → altsP k h L = k r [] [] h
  | [], r, e => by cases e
  | (g, r') :: rest, r, e => by
    simp only [firstP] at e
    cases g with
    | true => simp only [cond_true, Option.some.injEq] at e; subst e; rfl
    | false => exact altsP_of (L := rest) e

/-- A function of data, by its result as data. -/
def pureSpec (ts : List PT) (F : List SV → List (Bool × SV)) {Ω : Type} : Spec Ω := fun args h k =>
  match nrmPs ts args with
  | some az => altsP k h (F az)
  | none => none
theorem pure_par {ts : List PT} {F : List SV → List (Bool × SV)} {Ω Ω' : Type} : SpecPar (pureSpec ts F (Ω := Ω)) (pureSpec ts F (Ω := Ω')) := by
  intro args h k out hs
  unfold pureSpec at hs ⊢
  split at hs
  · obtain ⟨r, h1, h2⟩ := altsP_first hs
    exact ⟨_, _, _, _, h2, fun k' => altsP_of h1⟩
  · cases hs
theorem enter_fn {P : Program} {g : Nat} {fn : Func} (hf : P.funcs[g]? = some fn) (hname : (fn.name == "runtime.NumGoroutine") = false) {C : CF} (hC : coF P fn = some C) : ∀ (args : Array Value) (w : World), (callFunc g args).run P w = .ok (.enter g args) w := by
  have hbody : ∃ c, fn.body = some c := by
    unfold coF at hC
    split at hC
    · rename_i c hb; exact ⟨c, hb⟩
    · cases hC
  obtain ⟨c, hb⟩ := hbody
  intro args w
  have h1 : fn.name ≠ "runtime.NumGoroutine" := by simpa using hname
  simp [callFunc, hf, h1, hb]

theorem pureGoodL {P : Program} {g : Nat} {fn : Func} (hf : P.funcs[g]? = some fn) (hname : (fn.name == "runtime.NumGoroutine") = false) {C : CF} (hC : coF P fn = some C) {A : Ann} {e : {Ω : Type} → Env Ω} (he : GoodE P e) (hmix : P.follows .mixedOrders = true)
    {ts : List PT} {F : List SV → List (Bool × SV)}
    (hrun : ∀ az r, firstP (F az) = some r → ∃ bz r0 y H, (∀ cx w u, SRepL cx w az u → SRepL cx w bz u) ∧ sxFn (e (Ω := SV × SH)) A C bz [] (fun r h => some (r, h)) = some (r0, H) ∧ dat true H r0 = some y ∧ ∀ cx w u, SRep cx w y u → SRep cx w r u) :
    Good1 P g (fun {Ω} => pureSpec ts F (Ω := Ω)) := by
  refine ⟨fun Ω => ⟨enter_fn hf hname hC, fun args h k out hs => ?_⟩, fun Ω Ω' => pure_par⟩
  unfold pureSpec at hs
  split at hs
  · rename_i az hl
    obtain ⟨r, hF, hk⟩ := altsP_first hs
    obtain ⟨bz, r0, y, H, hbz, hrun, hdat, hle⟩ := hrun az r hF
    refine ⟨_, [], [], _, hk, ⟨Nat.le_refl _, fun _ _ _ => rfl⟩, fun cx w vals hg ha => ?_⟩
    have hfz : (cxL w cx.fz).fz = cx.fz := funext fun b => propext ⟨And.right, fun q => ⟨hg.fzlt b (.inl q), q⟩⟩
    refine (fn_calls (he.ok _) hmix hf hC hrun (cxL w cx.fz) w vals (gamL w _) (hbz _ _ _ (nrmPs_ok hfz hl ha))).mono fun e w' ⟨v, cxq, e1, gr, hr, hG⟩ => ?_
    have hsame : ∀ b, b < w.heap.size → w'.heap[b]? = w.heap[b]? := fun b hb => gr.same b (cxL_all hb)
    obtain ⟨k1, k2⟩ := fresh_data hg hsame gr.size gr.io
    have nm : (fun l => nmem l []) = fun _ => false := funext fun l => by simp [nmem]
    rw [nm]
    refine ⟨v, cxN cx w w', e1, k1, hle _ _ _ (dat_rep hG (fun _ b hb => ?_) (fun l hl => ?_) _ _ _ hdat hr), k2⟩
    · rcases Nat.lt_or_ge b w.heap.size with h1 | h1
      · refine .inl ?_
        have h2 := hG.dj b hb
        rw [gr.fr] at h2
        rcases Classical.em (cx.fz b) with h3 | h3
        · exact h3
        · exact absurd ⟨h1, h3⟩ h2
      · exact .inr ⟨h1, hG.fzlt b (.inl hb)⟩
    · refine .inr ⟨?_, hG.lt l hl⟩
      rcases Nat.lt_or_ge (cxq.th l) w.heap.size with h1 | h1
      · exact absurd (gr.hd _ (cxL_all h1)) (hG.own l hl)
      · exact h1
  · cases hs

theorem pureGood {P : Program} {g : Nat} {fn : Func} (hf : P.funcs[g]? = some fn) (hname : (fn.name == "runtime.NumGoroutine") = false) {C : CF} (hC : coF P fn = some C) {A : Ann} {e : {Ω : Type} → Env Ω} (he : GoodE P e) (hmix : P.follows .mixedOrders = true)
    {ts : List PT} {F : List SV → List (Bool × SV)}
    (hrun : ∀ az r, firstP (F az) = some r → ∃ r0 y H, sxFn (e (Ω := SV × SH)) A C az [] (fun r h => some (r, h)) = some (r0, H) ∧ dat true H r0 = some y ∧ ∀ cx w u, SRep cx w y u → SRep cx w r u) :
    Good1 P g (fun {Ω} => pureSpec ts F (Ω := Ω)) := pureGoodL hf hname hC he hmix fun az r h => by
  obtain ⟨r0, y, H, h1, h2, h3⟩ := hrun az r h
  exact ⟨az, r0, y, H, fun _ _ _ q => q, h1, h2, h3⟩

/-! ### results that say less: nil lists as empty lists -/
end Go.Sx

/- The contract of slices.Grow on a nil slice of integers. -/
namespace Go.Sx.Pr
open Go Go.Sx Go.Sx.Md Go.Proofs Go.RowKit
set_option maxRecDepth 100000

/-- A new row without elements. -/
theorem new_row {cx : Cx} {h : SH} {w w' : World} (hg : Gam cx h w) {cells : Array Value} {t : TypeId} (hh : w'.heap = w.heap.push (.cells cells t (0, 0))) (ho : w'.os = w.os) (hp : w'.output = w.output) (e : TypeId) (k : IntKind) :
    ∃ cx', Grow0 cx w cx' w' ∧ SRep cx' w' (.own h.length) (.slice (some (ad w.heap.size 0)) 0 cells.size) ∧ Gam cx' (h ++ [.rowi e k []]) w' := by
  have hs : ∀ b, b < w.heap.size → w'.heap[b]? = w.heap[b]? := fun b hb => by rw [hh]; simp [Array.getElem?_push, Nat.ne_of_lt hb]
  have hz : w.heap.size ≤ w'.heap.size := by rw [hh]; simp
  have hio : Io w w' := (Io.of_heap (w := w) (w' := { w' with heap := w.heap }) rfl ho hp).trans ⟨rfl, rfl, fun a _ => by
    have := frozen_push (w := { w' with heap := w.heap }) (ob := .cells cells t (0, 0)) (.inl ⟨_, _, rfl⟩) a
    rw [← this]
    simp only [World.frozen?, hh], by rw [hh]; simp⟩
  obtain ⟨g1, gr1⟩ := Gam.later hg hs hz hio
  have hT := Gam.take g1 (.rowi e k []) w.heap.size 0 cells.size false 1 (by
    simp only [ORep, Cx.ext]
    simp
    exact ⟨t, cells, by rw [hh]; simp, rfl⟩) (fun hl => ⟨by rw [hh]; simp, fun hd => by have := hg.fzlt _ hd; omega, fun m hm e => by have := hg.lt m hm; omega⟩)
  refine ⟨_, gr1.trans hT.2, ?_, hT.1⟩
  have hn := hg.n
  simp [SRep, Cx.ext, ← hn]

/-- A type's number. -/
abbrev tY (n : Nat) : Nat := n
theorem grow_nil (n : Nat) (hn : 1 ≤ n) (hl : n * 8 ≤ 140737488355328) (w : World) : Calls Tryz.prog 164 #[.slice none 0 0, .int .i64 n] w fun e w' => ∃ cells : Array Value, e = .returned (.slice (some (ad w.heap.size 0)) 0 cells.size) ∧ w'.heap = w.heap.push (.cells cells (tY 3) (0, 0)) ∧ w'.os = w.os ∧ w'.output = w.output := by
  obtain ⟨i, zv, c', hi, hzv, hcc, hzl, hisz, hr⟩ := zcT_sound (P := Tryz.prog) (t := 3) (z := [I 0]) (by kernel_rfl)
  have hb : i.bytes = 8 := by
    have : byT Tryz.prog (tY 3) = 8 := by kernel_rfl
    simpa [byT, hi] using this
  have hs1 : i.size = 1 := by
    have : szT Tryz.prog (tY 3) = 1 := by kernel_rfl
    simpa [szT, hi] using this
  have happ := Lib.run_append_nil_zeros (P := Tryz.prog) w (tY 26) (tY 3) (tY 26) (tY 3) i zv .i64 .i64 (by kernel_rfl) (by kernel_rfl) hi hzv n (by omega) (by omega) (by omega) (by rw [hb]; omega)
  generalize hcap : grownCap w n 0 (tY 3) = cap2 at happ
  have hcapge : n ≤ cap2 := by rw [← hcap]; exact grownCap_ge w _ 0 (tY 3)
  generalize hZ : (Builtin.zeroCells zv.cells n ++ Builtin.zeroCells zv.cells (cap2 - n)) = Z at happ
  have hc1 : zv.cells.size = 1 := by
    have h1 := (hr ⟨0, fun _ => 0, fun _ => 0, fun _ => 0, fun _ => false, fun _ => 0, fun _ => False, fun _ => False⟩ w).1.length
    rw [hcc]; simp at h1 ⊢; omega
  have hZs : Z.size = cap2 := by rw [← hZ]; simp [size_zeroCells, hc1]; omega
  clear hcap hZ
  go_enter Tryz.func164, Tryz.ntmps164
  go_wp2_with (at_builtin; refine Lib.wpList_append_run _ rfl _ _ _ _ rfl _ _ rfl rfl _ _ happ ?_)
  go_ret
  exact ⟨Z, by rw [hZs]; rfl, rfl, rfl, rfl⟩
theorem grow_zero (w : World) : Calls Tryz.prog 164 #[.slice none 0 0, .int .i64 0] w fun e w' => e = .returned (.slice none 0 0) ∧ w' = w := by
  go_enter Tryz.func164, Tryz.ntmps164
  go_wp2_with fail
  all_goals (go_ret; exact ⟨rfl, rfl⟩)

def S1114 {Ω : Type} : Spec Ω := fun args h k => match args with
  | [.d (.v (.slice none 0 0)), .d (.v (.int .i64 n))] => br (decide (1 ≤ n) && fits n.toNat 8) (k (.own h.length) [] [] (h ++ [.rowi 3 .i64 []])) (br (n == 0) (k (.d (.v (.slice none 0 0))) [] [] h) none)
  | _ => none
theorem enterGrow (args : Array Value) (w : World) : (callFunc 164 args).run Tryz.prog w = .ok (.enter 164 args) w := by
  have hf : Tryz.prog.funcs[164]? = some Tryz.f164 := Tryz.func164
  have hn : (Tryz.f164.name == "runtime.NumGoroutine") = false := by kernel_rfl
  have h1 : Tryz.f164.name ≠ "runtime.NumGoroutine" := by simpa using hn
  obtain ⟨c, hb⟩ : ∃ c, Tryz.f164.body = some c := Option.isSome_iff_exists.1 (by kernel_rfl)
  simp [callFunc, hf, h1, hb]
theorem g1114 : Good1 Tryz.prog 164 S1114 := by
  refine ⟨fun Ω => ⟨enterGrow, fun args h k out hs => ?_⟩, fun Ω Ω' => ?_⟩
  · unfold S1114 at hs
    split at hs
    · rename_i n
      rcases br_some hs with ⟨hb, hs2⟩ | ⟨hb, hs2⟩
      · clear hs
        simp only [Bool.and_eq_true, decide_eq_true_eq, fits] at hb
        obtain ⟨n, rfl⟩ := Int.eq_ofNat_of_zero_le (show 0 ≤ n by omega)
        simp only [Int.ofNat_eq_natCast, Int.toNat_natCast] at hb hs2 ⊢
        refine ⟨_, _, _, _, hs2, Keeps.new h _, fun cx w vals hg ha => ?_⟩
        match vals, ha with
        | [u, v], ha =>
          simp only [SRepL, SRep, DRep, and_true] at ha
          obtain ⟨⟨rfl, _⟩, rfl, _⟩ := ha
          refine (grow_nil n (by omega) hb.2 w).mono fun e w' ⟨cells, e1, e2, e3, e4⟩ => ?_
          have nm : (fun l => nmem l []) = fun _ => false := funext fun l => by simp [nmem]
          rw [nm]
          obtain ⟨cx', q1, q2, q3⟩ := new_row hg e2 e3 e4 (tY 3) .i64
          exact ⟨_, cx', e1, q1, q2, q3⟩
        | [], ha => simp [SRepL] at ha
        | [_], ha => simp [SRepL] at ha
        | _ :: _ :: _ :: _, ha => simp [SRepL] at ha
      · clear hs
        rcases br_some hs2 with ⟨h0, hs⟩ | ⟨_, hs⟩
        · have h0 : n = 0 := by simpa using h0
          subst h0
          refine ⟨_, _, _, _, hs, ⟨Nat.le_refl _, fun _ _ _ => rfl⟩, fun cx w vals hg ha => ?_⟩
          match vals, ha with
          | [u, v], ha =>
            simp only [SRepL, SRep, DRep, and_true] at ha
            obtain ⟨⟨rfl, _⟩, rfl, _⟩ := ha
            refine (grow_zero w).mono fun e w' ⟨e1, e2⟩ => ?_
            subst e2
            exact ⟨_, cx, e1, Grow.refl _ _ _, by simp [SRep, DRep, cellV], hg⟩
          | [], ha => simp [SRepL] at ha
          | [_], ha => simp [SRepL] at ha
          | _ :: _ :: _ :: _, ha => simp [SRepL] at ha
        · cases hs
    · cases hs
  · intro args h k out hs
    unfold S1114 at hs ⊢
    split at hs
    · rename_i n
      rcases br_some hs with ⟨hb, hs⟩ | ⟨hb, hs⟩
      · exact ⟨_, _, _, _, hs, fun k' => by simp only [hb, br, cond_true]⟩
      · rcases br_some hs with ⟨h0, hs⟩ | ⟨_, hs⟩
        · exact ⟨_, _, _, _, hs, fun k' => by simp only [hb, h0, br, cond_true, cond_false]⟩
        · cases hs
    · cases hs
theorem grow_nilU (n : Nat) (hn : 1 ≤ n) (hl : n * 8 ≤ 140737488355328) (w : World) : Calls Tryz.prog 114 #[.slice none 0 0, .int .i64 n] w fun e w' => ∃ cells : Array Value, e = .returned (.slice (some (ad w.heap.size 0)) 0 cells.size) ∧ w'.heap = w.heap.push (.cells cells (tY 22) (0, 0)) ∧ w'.os = w.os ∧ w'.output = w.output := by
  obtain ⟨i, zv, c', hi, hzv, hcc, hzl, hisz, hr⟩ := zcT_sound (P := Tryz.prog) (t := 22) (z := [U 0]) (by kernel_rfl)
  have hb : i.bytes = 8 := by
    have : byT Tryz.prog (tY 22) = 8 := by kernel_rfl
    simpa [byT, hi] using this
  have hs1 : i.size = 1 := by
    have : szT Tryz.prog (tY 22) = 1 := by kernel_rfl
    simpa [szT, hi] using this
  have happ := Lib.run_append_nil_zeros (P := Tryz.prog) w (tY 38) (tY 3) (tY 38) (tY 22) i zv .i64 .i64 (by kernel_rfl) (by kernel_rfl) hi hzv n (by omega) (by omega) (by omega) (by rw [hb]; omega)
  generalize hcap : grownCap w n 0 (tY 22) = cap2 at happ
  have hcapge : n ≤ cap2 := by rw [← hcap]; exact grownCap_ge w _ 0 (tY 22)
  generalize hZ : (Builtin.zeroCells zv.cells n ++ Builtin.zeroCells zv.cells (cap2 - n)) = Z at happ
  have hc1 : zv.cells.size = 1 := by
    have h1 := (hr ⟨0, fun _ => 0, fun _ => 0, fun _ => 0, fun _ => false, fun _ => 0, fun _ => False, fun _ => False⟩ w).1.length
    rw [hcc]; simp at h1 ⊢; omega
  have hZs : Z.size = cap2 := by rw [← hZ]; simp [size_zeroCells, hc1]; omega
  clear hcap hZ
  go_enter Tryz.func114, Tryz.ntmps114
  go_wp2_with (at_builtin; refine Lib.wpList_append_run _ rfl _ _ _ _ rfl _ _ rfl rfl _ _ happ ?_)
  go_ret
  exact ⟨Z, by rw [hZs]; rfl, rfl, rfl, rfl⟩
theorem grow_zeroU (w : World) : Calls Tryz.prog 114 #[.slice none 0 0, .int .i64 0] w fun e w' => e = .returned (.slice none 0 0) ∧ w' = w := by
  go_enter Tryz.func114, Tryz.ntmps114
  go_wp2_with fail
  all_goals (go_ret; exact ⟨rfl, rfl⟩)

def S1158 {Ω : Type} : Spec Ω := fun args h k => match args with
  | [.d (.v (.slice none 0 0)), .d (.v (.int .i64 n))] => br (decide (1 ≤ n) && fits n.toNat 8) (k (.own h.length) [] [] (h ++ [.rowi 22 .u64 []])) (br (n == 0) (k (.d (.v (.slice none 0 0))) [] [] h) none)
  | _ => none
theorem enterGrowU (args : Array Value) (w : World) : (callFunc 114 args).run Tryz.prog w = .ok (.enter 114 args) w := by
  have hf : Tryz.prog.funcs[114]? = some Tryz.f114 := Tryz.func114
  have hn : (Tryz.f114.name == "runtime.NumGoroutine") = false := by kernel_rfl
  have h1 : Tryz.f114.name ≠ "runtime.NumGoroutine" := by simpa using hn
  obtain ⟨c, hb⟩ : ∃ c, Tryz.f114.body = some c := Option.isSome_iff_exists.1 (by kernel_rfl)
  simp [callFunc, hf, h1, hb]
theorem g1158 : Good1 Tryz.prog 114 S1158 := by
  refine ⟨fun Ω => ⟨enterGrowU, fun args h k out hs => ?_⟩, fun Ω Ω' => ?_⟩
  · unfold S1158 at hs
    split at hs
    · rename_i n
      rcases br_some hs with ⟨hb, hs2⟩ | ⟨hb, hs2⟩
      · clear hs
        simp only [Bool.and_eq_true, decide_eq_true_eq, fits] at hb
        obtain ⟨n, rfl⟩ := Int.eq_ofNat_of_zero_le (show 0 ≤ n by omega)
        simp only [Int.ofNat_eq_natCast, Int.toNat_natCast] at hb hs2 ⊢
        refine ⟨_, _, _, _, hs2, Keeps.new h _, fun cx w vals hg ha => ?_⟩
        match vals, ha with
        | [u, v], ha =>
          simp only [SRepL, SRep, DRep, and_true] at ha
          obtain ⟨⟨rfl, _⟩, rfl, _⟩ := ha
          refine (grow_nilU n (by omega) hb.2 w).mono fun e w' ⟨cells, e1, e2, e3, e4⟩ => ?_
          have nm : (fun l => nmem l []) = fun _ => false := funext fun l => by simp [nmem]
          rw [nm]
          obtain ⟨cx', q1, q2, q3⟩ := new_row hg e2 e3 e4 (tY 22) .u64
          exact ⟨_, cx', e1, q1, q2, q3⟩
        | [], ha => simp [SRepL] at ha
        | [_], ha => simp [SRepL] at ha
        | _ :: _ :: _ :: _, ha => simp [SRepL] at ha
      · clear hs
        rcases br_some hs2 with ⟨h0, hs⟩ | ⟨_, hs⟩
        · have h0 : n = 0 := by simpa using h0
          subst h0
          refine ⟨_, _, _, _, hs, ⟨Nat.le_refl _, fun _ _ _ => rfl⟩, fun cx w vals hg ha => ?_⟩
          match vals, ha with
          | [u, v], ha =>
            simp only [SRepL, SRep, DRep, and_true] at ha
            obtain ⟨⟨rfl, _⟩, rfl, _⟩ := ha
            refine (grow_zeroU w).mono fun e w' ⟨e1, e2⟩ => ?_
            subst e2
            exact ⟨_, cx, e1, Grow.refl _ _ _, by simp [SRep, DRep, cellV], hg⟩
          | [], ha => simp [SRepL] at ha
          | [_], ha => simp [SRepL] at ha
          | _ :: _ :: _ :: _, ha => simp [SRepL] at ha
        · cases hs
    · cases hs
  · intro args h k out hs
    unfold S1158 at hs ⊢
    split at hs
    · rename_i n
      rcases br_some hs with ⟨hb, hs⟩ | ⟨hb, hs⟩
      · exact ⟨_, _, _, _, hs, fun k' => by simp only [hb, br, cond_true]⟩
      · rcases br_some hs with ⟨h0, hs⟩ | ⟨_, hs⟩
        · exact ⟨_, _, _, _, hs, fun k' => by simp only [hb, h0, br, cond_true, cond_false]⟩
        · cases hs
    · cases hs
end Go.Sx.Pr

/- Plain laws of the pure memory. -/
namespace Go.Sx.Pr
open Go Go.Sx Go.Sx.Md

end Go.Sx.Pr

namespace Go.Sx.Pr
open Go Go.Sx Go.Proofs
set_option maxRecDepth 100000
def K52_1 : CC := .seq (.reg false [⟨some 4, .mv (.c (.d (.v (.bool true)))), none, 0⟩])
 (.ret)
def L52_2 : CC := .seq (.seq (.reg false [⟨some 11, .mv (.t 5), none, 0⟩,
   ⟨some 12, .mv (.t 0), none, 0⟩,
   ⟨some 13, .len (.t 12), none, 0⟩,
   ⟨some 14, .bin .lss (.t 11) (.t 13), none, 0⟩])
 (.cond 14 (.skip)
   (.exit 0)))
 (.seq (.block 1 (.seq (.reg true [⟨some 17, .mv (.t 0), none, 0⟩,
     ⟨some 18, .mv (.t 5), none, 0⟩,
     ⟨some 19, .ixs 1 (.t 17) (.t 18), none, 3⟩,
     ⟨some 20, .ld 1 false (.t 19), none, 7⟩,
     ⟨some 21, .mv (.t 1), none, 0⟩,
     ⟨some 22, .mv (.t 5), none, 0⟩,
     ⟨some 23, .ixs 1 (.t 21) (.t 22), none, 48⟩,
     ⟨some 24, .ld 1 false (.t 23), none, 112⟩,
     ⟨some 25, .eq .int true (.t 20) (.t 24), none, 255⟩])
   (.cond 25 (.seq (.reg false [⟨some 4, .mv (.c (.d (.v (.bool false)))), none, 0⟩])
     (.ret))
     (.skip))))
 (.reg false [⟨some 15, .mv (.t 5), none, 0⟩,
   ⟨some 16, .bin .add (.t 15) (.c (.d (.v (.int .i64 1)))), none, 0⟩,
   ⟨some 5, .mv (.t 16), none, 0⟩]))
def K52_3 : CC := .reg false [⟨some 5, .mv (.c (.d (.v (.int .i64 0)))), none, 0⟩]
def K52_4 : CC := .seq (.reg false [⟨some 6, .mv (.t 0), none, 0⟩,
   ⟨some 7, .len (.t 6), none, 0⟩,
   ⟨some 8, .mv (.t 1), none, 0⟩,
   ⟨some 9, .len (.t 8), none, 0⟩,
   ⟨some 10, .eq .int true (.t 7) (.t 9), none, 0⟩])
 (.cond 10 (.seq (.reg false [⟨some 4, .mv (.c (.d (.v (.bool false)))), none, 0⟩])
   (.ret))
   (.skip))
def K52_5 : CC := .reg false [⟨some 4, .mv (.c (.d (.v (.bool false)))), none, 0⟩]
/-- coatcheck/coatcheckref02.Ints -/
def C52 : CF := ⟨2, [(4, none)],
 .seq K52_5 (.seq K52_4 (.seq (.seq K52_3 (.block 0 (.loop L52_2))) K52_1))⟩
theorem c52 : coF Tryz.prog Tryz.f62 = some C52 := by kernel_rfl
def A52 : Ann := { keep := [0, 1, 4, 5, 10, 14, 25], live := [(0, [0, 1, 5])] }
def E52 {Ω : Type} : Env Ω := enil
theorem e52 : GoodE Tryz.prog E52 := GoodE.nil
def Z52_2 {Ω : Type} (it : Itr Ω) (K : SV → SH → Option Ω) : SE → SS → Option Ω := kblk 0 (kseq it E52 A52 K52_1 0 (kfn C52 K))
end Go.Sx.Pr

/- Contract: equality of lists of numbers. -/
namespace Go.Sx.Pr
open Go Go.Sx Go.Proofs
set_option maxRecDepth 100000

/-! ### ref02.Ints -/
abbrev S52s (i : Int) (xs ys : List Int) : SS := ⟨[(0, .d (.ints .i64 xs)), (1, .d (.ints .i64 ys)), (5, I i)], []⟩
section
variable {Ω : Type} (it : Itr Ω) (IT : SS → Option Ω) (K : SV → SH → Option Ω) (xs ys : List Int) (i : Int)
theorem r52 : sxFnI it E52 A52 C52 [.d (.ints .i64 xs), .d (.ints .i64 ys)] [] K =
    br (!((xs.length : Int) == (ys.length : Int))) (K (B false) []) (it [0, 1, 5] 0 (sxI it E52 A52 L52_2 0) (S52s 0 xs ys) (Z52_2 it K)) := by kernel_rfl
theorem r52_1 : sxI it E52 A52 L52_2 0 (S52s i xs ys) (kitV [0, 1, 5] 0 IT (Z52_2 it K)) =
    br (decide (i < (xs.length : Int))) (br (inB i xs.length) (br (inB i ys.length) (br (!(xs.getD i.toNat 0 == ys.getD i.toNat 0)) (K (B false) []) (IT (S52s (IntKind.wrap .i64 (i + 1)) xs ys))) none) none) (K (B true) []) := by kernel_rfl
end

theorem loop52 {Ω : Type} (K : SV → SH → Option Ω) {xs ys : List Int} (hl : xs.length = ys.length) (hb : xs.length < 1000000000) : ∀ (k i n : Nat), xs.length - i = k → i ≤ xs.length → k < n →
    iter [0, 1, 5] 0 (sxI itB E52 A52 L52_2 0) n (S52s i xs ys) (Z52_2 itB K) = K (B (decide (xs.drop i = ys.drop i))) []
  | k, i, 0, _, _, h => by omega
  | k, i, n + 1, hk, hi, hn => by
    rw [iter_succ, r52_1]
    by_cases h : i < xs.length
    · have h1 : decide ((i : Int) < (xs.length : Int)) = true := by simp; omega
      have h2 : inB (i : Int) xs.length = true := by simp [inB]; omega
      have h3 : inB (i : Int) ys.length = true := by simp [inB]; omega
      have h4 : IntKind.wrap .i64 ((i : Int) + 1) = ((i + 1 : Nat) : Int) := by rw [w64] <;> omega
      have hy : i < ys.length := by omega
      have e1 : xs.getD ((i : Int)).toNat 0 = xs[i] := by simp [List.getD_eq_getElem?_getD, h]
      have e2 : ys.getD ((i : Int)).toNat 0 = ys[i] := by simp [List.getD_eq_getElem?_getD, hy]
      rw [h1, h2, h3, h4, e1, e2]
      simp only [br, cond_true]
      have hd : (xs.drop i = ys.drop i) ↔ (xs[i] = ys[i] ∧ xs.drop (i + 1) = ys.drop (i + 1)) := by rw [List.drop_eq_getElem_cons h, List.drop_eq_getElem_cons hy, List.cons.injEq]
      have hd' : decide (xs.drop i = ys.drop i) = decide (xs[i] = ys[i] ∧ xs.drop (i + 1) = ys.drop (i + 1)) := decide_eq_decide.2 hd
      rw [hd']
      by_cases e : xs[i] = ys[i]
      · have : (!(xs[i] == ys[i])) = false := by simp [e]
        rw [this]
        simp only [cond_false]
        rw [loop52 K hl hb (k - 1) (i + 1) n (by omega) (by omega) (by omega)]
        simp only [e, true_and]
      · have : (!(xs[i] == ys[i])) = true := by simp [e]
        rw [this]
        simp only [e, false_and, cond_true, decide_false]
    · have h1 : decide ((i : Int) < (xs.length : Int)) = false := by simp; omega
      rw [h1]
      simp only [br, cond_false]
      rw [List.drop_eq_nil_of_le (by omega), List.drop_eq_nil_of_le (by omega)]
      simp

theorem v52 {Ω : Type} (K : SV → SH → Option Ω) (xs ys : List Int) (hb : xs.length < 1000000000) : sxFn E52 A52 C52 [.d (.ints .i64 xs), .d (.ints .i64 ys)] [] K = K (B (decide (xs = ys))) [] := by
  rw [← sxFnI_eq, r52]
  by_cases h : xs.length = ys.length
  · have : (!((xs.length : Int) == (ys.length : Int))) = false := by simp [h]
    rw [this]
    simp only [br, cond_false]
    have := loop52 K h hb xs.length 0 big (by omega) (by omega) (by unfold big; omega)
    simpa [itB] using this
  · have : (!((xs.length : Int) == (ys.length : Int))) = true := by simp; omega
    rw [this]
    have : xs ≠ ys := fun e => h (by rw [e])
    simp [br, this]

def FInts : List (List Int) → Option (Bool × SV × SH)
  | [xs, ys] => some (decide (xs.length < 1000000000), B (decide (xs = ys)), [])
  | _ => none
def S52 {Ω : Type} : Spec Ω := conSpec [.s .i64, .s .i64] FInts
theorem g52 : Good1 Tryz.prog 62 S52 := conGood Tryz.func62 (by kernel_rfl) c52 e52 mix (A := A52) fun l r hr hl hF => by
  obtain ⟨xs, q, rfl, _, ys, q', rfl, _, hq⟩ := hl
  simp only [lenAs] at hq
  subst hq
  simp only [FInts, Option.some.injEq, Prod.mk.injEq] at hF
  obtain ⟨h1, rfl, rfl⟩ := hF
  exact ⟨trivial, trivial, _, trim_none rfl _, v52 _ xs ys (by simpa using h1)⟩

end Go.Sx.Pr

namespace Go.Sx.Pr
open Go Go.Sx Go.Proofs
set_option maxRecDepth 100000
def K48_1 : CC := .seq (.reg false [⟨some 157, .fa 10 (.t 2), none, 0⟩,
   ⟨some 158, .ld 1 false (.t 157), none, 0⟩,
   ⟨some 159, .fa 10 (.t 3), none, 0⟩,
   ⟨some 160, .ld 1 false (.t 159), none, 0⟩,
   ⟨some 161, .call (.c (.fn (.func 62) [] [])) [.t 158, .t 160], none, 0⟩,
   ⟨some 162, .mv (.t 161), none, 0⟩,
   ⟨some 163, .fa 17 (.t 2), some (162, true), 0⟩,
   ⟨some 164, .ld 1 false (.t 163), some (162, true), 0⟩,
   ⟨some 165, .fa 17 (.t 3), some (162, true), 0⟩,
   ⟨some 166, .ld 1 false (.t 165), some (162, true), 0⟩,
   ⟨some 167, .call (.c (.fn (.func 62) [] [])) [.t 164, .t 166], some (162, true), 0⟩,
   ⟨some 168, .pick (.t 162) (.t 167) (.c (.d (.v (.bool false)))), none, 0⟩,
   ⟨some 169, .mv (.t 168), none, 0⟩,
   ⟨some 170, .fa 29 (.t 2), some (169, true), 0⟩,
   ⟨some 171, .ld 1 false (.t 170), some (169, true), 0⟩,
   ⟨some 172, .fa 29 (.t 3), some (169, true), 0⟩,
   ⟨some 173, .ld 1 false (.t 172), some (169, true), 0⟩,
   ⟨some 174, .call (.c (.fn (.func 19) [] [])) [.t 171, .t 173], some (169, true), 0⟩,
   ⟨some 175, .pick (.t 169) (.t 174) (.c (.d (.v (.bool false)))), none, 0⟩,
   ⟨some 4, .mv (.t 175), none, 0⟩])
 (.ret)
def K48_2 : CC := .reg false [⟨some 130, .mv (.t 5), none, 0⟩,
   ⟨some 131, .bin .add (.t 130) (.c (.d (.v (.int .i64 1)))), none, 0⟩,
   ⟨some 5, .mv (.t 131), none, 0⟩]
def K48_3 : CC := .cond 156 (.seq (.reg false [⟨some 4, .mv (.c (.d (.v (.bool false)))), none, 0⟩])
   (.ret))
   (.skip)
def K48_4 : CC := .reg true [⟨some 132, .mv (.t 5), none, 0⟩,
   ⟨some 133, .fa 11 (.t 2), none, 0⟩,
   ⟨some 134, .ixa 3 2 (.t 133) (.t 132), none, 3⟩,
   ⟨some 135, .fa 0 (.t 134), none, 7⟩,
   ⟨some 136, .ld 1 false (.t 135), none, 15⟩,
   ⟨some 137, .mv (.t 5), none, 0⟩,
   ⟨some 138, .fa 11 (.t 3), none, 0⟩,
   ⟨some 139, .ixa 3 2 (.t 138) (.t 137), none, 96⟩,
   ⟨some 140, .fa 0 (.t 139), none, 224⟩,
   ⟨some 141, .ld 1 false (.t 140), none, 480⟩,
   ⟨some 142, .eq .int true (.t 136) (.t 141), none, 1023⟩,
   ⟨some 143, .mv (.t 142), none, 2047⟩,
   ⟨some 144, .mv (.t 5), some (143, false), 4095⟩,
   ⟨some 145, .fa 11 (.t 2), some (143, false), 4095⟩,
   ⟨some 146, .ixa 3 2 (.t 145) (.t 144), some (143, false), 16383⟩,
   ⟨some 147, .fa 1 (.t 146), some (143, false), 32767⟩,
   ⟨some 148, .ld 1 false (.t 147), some (143, false), 65535⟩,
   ⟨some 149, .mv (.t 5), some (143, false), 4095⟩,
   ⟨some 150, .fa 11 (.t 3), some (143, false), 4095⟩,
   ⟨some 151, .ixa 3 2 (.t 150) (.t 149), some (143, false), 397311⟩,
   ⟨some 152, .fa 1 (.t 151), some (143, false), 921599⟩,
   ⟨some 153, .ld 1 false (.t 152), some (143, false), 1970175⟩,
   ⟨some 154, .call (.c (.fn (.func 62) [] [])) [.t 148, .t 153], some (143, false), 4194303⟩,
   ⟨some 155, .un .not (.t 154), some (143, false), 8388607⟩,
   ⟨some 156, .pick (.t 143) (.c (.d (.v (.bool true)))) (.t 155), none, 16777215⟩]
def K48_5 : CC := .seq (.reg false [⟨some 128, .mv (.t 5), none, 0⟩,
   ⟨some 129, .bin .lss (.t 128) (.c (.d (.v (.int .i64 3)))), none, 0⟩])
 (.cond 129 (.skip)
   (.exit 0))
def L48_6 : CC := .seq K48_5 (.seq (.block 1 (.seq K48_4 K48_3)) K48_2)
def K48_7 : CC := .reg false [⟨some 5, .mv (.c (.d (.v (.int .i64 0)))), none, 0⟩]
def K48_8 : CC := .cond 127 (.seq (.reg false [⟨some 4, .mv (.c (.d (.v (.bool false)))), none, 0⟩])
   (.ret))
   (.skip)
def K48_9 : CC := .reg false [⟨some 67, .fa 23 (.t 2), none, 0⟩,
   ⟨some 68, .ld 1 false (.t 67), none, 0⟩,
   ⟨some 69, .fa 23 (.t 3), none, 0⟩,
   ⟨some 70, .ld 1 false (.t 69), none, 0⟩,
   ⟨some 71, .eq .int true (.t 68) (.t 70), none, 0⟩,
   ⟨some 72, .mv (.t 71), none, 0⟩,
   ⟨some 73, .fa 24 (.t 2), some (72, false), 0⟩,
   ⟨some 74, .ld 1 false (.t 73), some (72, false), 0⟩,
   ⟨some 75, .fa 24 (.t 3), some (72, false), 0⟩,
   ⟨some 76, .ld 1 false (.t 75), some (72, false), 0⟩,
   ⟨some 77, .eq .int true (.t 74) (.t 76), some (72, false), 0⟩,
   ⟨some 78, .pick (.t 72) (.c (.d (.v (.bool true)))) (.t 77), none, 0⟩,
   ⟨some 79, .mv (.t 78), none, 0⟩,
   ⟨some 80, .fa 25 (.t 2), some (79, false), 0⟩,
   ⟨some 81, .ld 1 false (.t 80), some (79, false), 0⟩,
   ⟨some 82, .fa 25 (.t 3), some (79, false), 0⟩,
   ⟨some 83, .ld 1 false (.t 82), some (79, false), 0⟩,
   ⟨some 84, .eq .int true (.t 81) (.t 83), some (79, false), 0⟩,
   ⟨some 85, .pick (.t 79) (.c (.d (.v (.bool true)))) (.t 84), none, 0⟩,
   ⟨some 86, .mv (.t 85), none, 0⟩,
   ⟨some 87, .fa 26 (.t 2), some (86, false), 0⟩,
   ⟨some 88, .ld 1 false (.t 87), some (86, false), 0⟩,
   ⟨some 89, .fa 26 (.t 3), some (86, false), 0⟩,
   ⟨some 90, .ld 1 false (.t 89), some (86, false), 0⟩,
   ⟨some 91, .eq .int true (.t 88) (.t 90), some (86, false), 0⟩,
   ⟨some 92, .pick (.t 86) (.c (.d (.v (.bool true)))) (.t 91), none, 0⟩,
   ⟨some 93, .mv (.t 92), none, 0⟩,
   ⟨some 94, .fa 27 (.t 2), some (93, false), 0⟩,
   ⟨some 95, .ld 1 false (.t 94), some (93, false), 0⟩,
   ⟨some 96, .fa 27 (.t 3), some (93, false), 0⟩,
   ⟨some 97, .ld 1 false (.t 96), some (93, false), 0⟩,
   ⟨some 98, .eq .int true (.t 95) (.t 97), some (93, false), 0⟩,
   ⟨some 99, .pick (.t 93) (.c (.d (.v (.bool true)))) (.t 98), none, 0⟩,
   ⟨some 100, .mv (.t 99), none, 0⟩,
   ⟨some 101, .fa 28 (.t 2), some (100, false), 0⟩,
   ⟨some 102, .ld 1 false (.t 101), some (100, false), 0⟩,
   ⟨some 103, .fa 28 (.t 3), some (100, false), 0⟩,
   ⟨some 104, .ld 1 false (.t 103), some (100, false), 0⟩,
   ⟨some 105, .eq .int true (.t 102) (.t 104), some (100, false), 0⟩,
   ⟨some 106, .pick (.t 100) (.c (.d (.v (.bool true)))) (.t 105), none, 0⟩,
   ⟨some 107, .mv (.t 106), none, 0⟩,
   ⟨some 108, .fa 30 (.t 2), some (107, false), 0⟩,
   ⟨some 109, .ld 1 false (.t 108), some (107, false), 0⟩,
   ⟨some 110, .fa 30 (.t 3), some (107, false), 0⟩,
   ⟨some 111, .ld 1 false (.t 110), some (107, false), 0⟩,
   ⟨some 112, .eq .int true (.t 109) (.t 111), some (107, false), 0⟩,
   ⟨some 113, .pick (.t 107) (.c (.d (.v (.bool true)))) (.t 112), none, 0⟩,
   ⟨some 114, .mv (.t 113), none, 0⟩,
   ⟨some 115, .fa 31 (.t 2), some (114, false), 0⟩,
   ⟨some 116, .ld 1 false (.t 115), some (114, false), 0⟩,
   ⟨some 117, .fa 31 (.t 3), some (114, false), 0⟩,
   ⟨some 118, .ld 1 false (.t 117), some (114, false), 0⟩,
   ⟨some 119, .eq .int true (.t 116) (.t 118), some (114, false), 0⟩,
   ⟨some 120, .pick (.t 114) (.c (.d (.v (.bool true)))) (.t 119), none, 0⟩,
   ⟨some 121, .mv (.t 120), none, 0⟩,
   ⟨some 122, .fa 32 (.t 2), some (121, false), 0⟩,
   ⟨some 123, .ld 1 false (.t 122), some (121, false), 0⟩,
   ⟨some 124, .fa 32 (.t 3), some (121, false), 0⟩,
   ⟨some 125, .ld 1 false (.t 124), some (121, false), 0⟩,
   ⟨some 126, .eq .bool true (.t 123) (.t 125), some (121, false), 0⟩,
   ⟨some 127, .pick (.t 121) (.c (.d (.v (.bool true)))) (.t 126), none, 0⟩]
def K48_10 : CC := .cond 66 (.seq (.reg false [⟨some 4, .mv (.c (.d (.v (.bool false)))), none, 0⟩])
   (.ret))
   (.skip)
def K48_11 : CC := .reg false [⟨some 6, .fa 0 (.t 2), none, 0⟩,
   ⟨some 7, .ld 1 false (.t 6), none, 0⟩,
   ⟨some 8, .fa 0 (.t 3), none, 0⟩,
   ⟨some 9, .ld 1 false (.t 8), none, 0⟩,
   ⟨some 10, .eq .int true (.t 7) (.t 9), none, 0⟩,
   ⟨some 11, .mv (.t 10), none, 0⟩,
   ⟨some 12, .fa 1 (.t 2), some (11, false), 0⟩,
   ⟨some 13, .ld 7 true (.t 12), some (11, false), 0⟩,
   ⟨some 14, .fa 1 (.t 3), some (11, false), 0⟩,
   ⟨some 15, .ld 7 true (.t 14), some (11, false), 0⟩,
   ⟨some 16, .eq (.cons .int 0 1 false (.cons .int 1 1 false (.cons .int 2 1 false (.cons .int 3 1 false (.cons .bool 4 1 false (.cons .int 5 1 false (.cons .int 6 1 false .nil))))))) true (.t 13) (.t 15), some (11, false), 0⟩,
   ⟨some 17, .pick (.t 11) (.c (.d (.v (.bool true)))) (.t 16), none, 0⟩,
   ⟨some 18, .mv (.t 17), none, 0⟩,
   ⟨some 19, .fa 8 (.t 2), some (18, false), 0⟩,
   ⟨some 20, .ld 1 false (.t 19), some (18, false), 0⟩,
   ⟨some 21, .fa 8 (.t 3), some (18, false), 0⟩,
   ⟨some 22, .ld 1 false (.t 21), some (18, false), 0⟩,
   ⟨some 23, .eq .bool true (.t 20) (.t 22), some (18, false), 0⟩,
   ⟨some 24, .pick (.t 18) (.c (.d (.v (.bool true)))) (.t 23), none, 0⟩,
   ⟨some 25, .mv (.t 24), none, 0⟩,
   ⟨some 26, .fa 9 (.t 2), some (25, false), 0⟩,
   ⟨some 27, .ld 1 false (.t 26), some (25, false), 0⟩,
   ⟨some 28, .fa 9 (.t 3), some (25, false), 0⟩,
   ⟨some 29, .ld 1 false (.t 28), some (25, false), 0⟩,
   ⟨some 30, .eq .int true (.t 27) (.t 29), some (25, false), 0⟩,
   ⟨some 31, .pick (.t 25) (.c (.d (.v (.bool true)))) (.t 30), none, 0⟩,
   ⟨some 32, .mv (.t 31), none, 0⟩,
   ⟨some 33, .fa 18 (.t 2), some (32, false), 0⟩,
   ⟨some 34, .ld 1 false (.t 33), some (32, false), 0⟩,
   ⟨some 35, .fa 18 (.t 3), some (32, false), 0⟩,
   ⟨some 36, .ld 1 false (.t 35), some (32, false), 0⟩,
   ⟨some 37, .eq .int true (.t 34) (.t 36), some (32, false), 0⟩,
   ⟨some 38, .pick (.t 32) (.c (.d (.v (.bool true)))) (.t 37), none, 0⟩,
   ⟨some 39, .mv (.t 38), none, 0⟩,
   ⟨some 40, .fa 19 (.t 2), some (39, false), 0⟩,
   ⟨some 41, .ld 1 false (.t 40), some (39, false), 0⟩,
   ⟨some 42, .fa 19 (.t 3), some (39, false), 0⟩,
   ⟨some 43, .ld 1 false (.t 42), some (39, false), 0⟩,
   ⟨some 44, .eq .int true (.t 41) (.t 43), some (39, false), 0⟩,
   ⟨some 45, .pick (.t 39) (.c (.d (.v (.bool true)))) (.t 44), none, 0⟩,
   ⟨some 46, .mv (.t 45), none, 0⟩,
   ⟨some 47, .fa 20 (.t 2), some (46, false), 0⟩,
   ⟨some 48, .ld 1 false (.t 47), some (46, false), 0⟩,
   ⟨some 49, .fa 20 (.t 3), some (46, false), 0⟩,
   ⟨some 50, .ld 1 false (.t 49), some (46, false), 0⟩,
   ⟨some 51, .eq .int true (.t 48) (.t 50), some (46, false), 0⟩,
   ⟨some 52, .pick (.t 46) (.c (.d (.v (.bool true)))) (.t 51), none, 0⟩,
   ⟨some 53, .mv (.t 52), none, 0⟩,
   ⟨some 54, .fa 21 (.t 2), some (53, false), 0⟩,
   ⟨some 55, .ld 1 false (.t 54), some (53, false), 0⟩,
   ⟨some 56, .fa 21 (.t 3), some (53, false), 0⟩,
   ⟨some 57, .ld 1 false (.t 56), some (53, false), 0⟩,
   ⟨some 58, .eq .int true (.t 55) (.t 57), some (53, false), 0⟩,
   ⟨some 59, .pick (.t 53) (.c (.d (.v (.bool true)))) (.t 58), none, 0⟩,
   ⟨some 60, .mv (.t 59), none, 0⟩,
   ⟨some 61, .fa 22 (.t 2), some (60, false), 0⟩,
   ⟨some 62, .ld 1 false (.t 61), some (60, false), 0⟩,
   ⟨some 63, .fa 22 (.t 3), some (60, false), 0⟩,
   ⟨some 64, .ld 1 false (.t 63), some (60, false), 0⟩,
   ⟨some 65, .eq .int true (.t 62) (.t 64), some (60, false), 0⟩,
   ⟨some 66, .pick (.t 60) (.c (.d (.v (.bool true)))) (.t 65), none, 0⟩]
def K48_12 : CC := .reg false [⟨some 2, .box 56 33 (.t 0), none, 0⟩,
   ⟨some 3, .box 56 33 (.t 1), none, 0⟩,
   ⟨some 4, .mv (.c (.d (.v (.bool false)))), none, 0⟩]
/-- coatcheck/coatcheckref04.Same -/
def C48 : CF := ⟨2, [(4, none)],
 .seq K48_12 (.seq (.seq K48_11 K48_10) (.seq (.seq K48_9 K48_8) (.seq (.seq K48_7 (.block 0 (.loop L48_6))) K48_1)))⟩
theorem c48 : coF Tryz.prog Tryz.f42 = some C48 := by kernel_rfl
def A48 : Ann := { keep := [0, 1, 2, 3, 4, 5, 66, 127, 129, 156], live := [(0, [2, 3, 5])] }
def E48 {Ω : Type} : Env Ω := econs 19 S32 (econs 62 S52 (enil))
theorem e48 : GoodE Tryz.prog E48 := GoodE.cons g32 (GoodE.cons g52 (GoodE.nil))
end Go.Sx.Pr

namespace Go.Sx.Pr
open Go Go.Sx Go.Proofs
set_option maxRecDepth 100000
end Go.Sx.Pr
