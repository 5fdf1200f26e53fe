/- A callee's body run in place: its spec is its code, on that part of the heap which its arguments reach. -/
import Derived.Test.YtpnnnklahanecaaSxPar2
set_option linter.unusedVariables false
set_option linter.unusedSimpArgs false
namespace Go.Sx

def unmask (m : List Nat) : Nat → SH → SH → SH
  | _, [], h' => h'
  | i, o :: r, [] => (bif nmem i m then .dead else o) :: unmask m (i + 1) r []
  | i, o :: r, o' :: r' => (bif nmem i m then o' else o) :: unmask m (i + 1) r r'

/-- What neither the result nor the locs of m reach is given up. -/
def trim (n0 : Nat) (r : SV) (m : List Nat) (h : SH) : SH :=
  let ks := clos h 100000 (locsD r ++ m) []
  let h2 := fadeH ks n0 0 h
  let n1 := max n0 (topOf ks)
  bif ment (Nat.ble n1) r || mentH (Nat.ble n1) (h2.take n1) then h2 else h2.take n1

/-- The rows among these locs. -/
def rowsIn (h : SH) : List Nat → List Nat
  | [] => []
  | l :: r => match hget h l with
    | .rowi .. | .row .. => l :: rowsIn h r
    | _ => rowsIn h r

/-- Those beyond mention none of these locs. -/
def aside (m ap : List Nat) : Nat → SH → Bool
  | _, [] => true
  | i, o :: r => (nmem i m || !(mentO (fun l => nmem l ap) o)) && aside m ap (i + 1) r

def inlAp (w : Bool) (m : List Nat) (h : SH) : List Nat := bif w then rowsIn h m else []

/-- The spec of a function whose body is run in place; w: it may append to rows that it reaches. -/
def inl {Ω : Type} (env : Env Ω) (A : Ann) (C : CF) (w : Bool) : Spec Ω := fun args h k =>
  let m := clos h 100000 (locsDL args) []
  let ap := inlAp w m h
  bif aside m ap 0 h then
    sxFn env { A with n0 := h.length, ap := ap } C args (maskH m 0 h) fun r h' => bif Nat.ble h.length (trim h.length r m h').length then k r m ap (unmask m 0 h (trim h.length r m h')) else none
  else none

theorem trim_sound {cx : Cx} {w : World} {r : SV} {v : Value} {m : List Nat} {n0 : Nat} {h : SH} (hg : Gam cx h w) (hr : SRep cx w r v) :
    ∃ cx', Gam cx' (trim n0 r m h) w ∧ SRep cx' w r v ∧ ∀ {p : Nat → Bool} {cx1 : Cx} {w1 : World}, cx1.n ≤ n0 → Grow p cx1 w1 cx w → Grow p cx1 w1 cx' w := by
  unfold trim
  dsimp only
  generalize clos h 100000 (locsD r ++ m) [] = ks
  obtain ⟨f1, f2⟩ := @fadeH_spec ks n0 h 0
  have hg2 := hg.fade f1 f2
  generalize fadeH ks n0 0 h = h2 at *
  generalize hn : max n0 (topOf ks) = n1
  cases hb : (ment (Nat.ble n1) r || mentH (Nat.ble n1) (h2.take n1)) with
  | true => exact ⟨cx, hg2, hr, fun _ g => g⟩
  | false =>
    rw [Bool.or_eq_false_iff] at hb
    refine ⟨{ cx with n := min n1 cx.n }, ⟨by simp [hg2.n], fun l => ?_, fun l hl => hg2.lt l (liv_take hl), fun l hl => hg2.own l (liv_take hl), fun l m hl hm => hg2.inj l m (liv_take hl) (liv_take hm), hg2.fzlt, hg2.dj⟩, SRep.cut r v hb.1 hr, fun hle g => ⟨g.fz, g.same, g.size, fun l hl hp => ?_, g.fr, g.io⟩⟩
    · have h1 := mentH_get hb.2 l
      simp only [cond_false]
      rw [hget_take] at h1 ⊢
      split
      · rename_i h; rw [if_pos h] at h1; exact ORep.cut h1 (hg2.obj l)
      · trivial
    · obtain ⟨h1, h2⟩ := g.loc l hl hp
      exact ⟨by simp only; omega, h2⟩

theorem unmask_get {m : List Nat} : ∀ {h h' : SH} {i l : Nat}, hget (unmask m i h h') l = if l < h.length ∧ nmem (i + l) m = false then hget h l else hget h' l
  | [], h', i, l => by simp [unmask]
  | o :: r, [], i, 0 => by
    simp only [unmask, hget, List.getD_cons_zero, Nat.add_zero, List.length_cons]
    cases nmem i m <;> simp
  | o :: r, [], i, l + 1 => by
    have := @unmask_get m r [] (i + 1) l
    simp only [unmask, hget, List.getD_cons_succ, List.length_cons] at this ⊢
    rw [this, show i + 1 + l = i + (l + 1) by omega]
    simp
  | o :: r, o' :: r', i, 0 => by
    simp only [unmask, hget, List.getD_cons_zero, Nat.add_zero, List.length_cons]
    cases nmem i m <;> simp
  | o :: r, o' :: r', i, l + 1 => by
    have := @unmask_get m r r' (i + 1) l
    simp only [unmask, hget, List.getD_cons_succ, List.length_cons] at this ⊢
    rw [this, show i + 1 + l = i + (l + 1) by omega]
    simp

theorem unmask_length {m : List Nat} : ∀ {h h' : SH} {i : Nat}, (unmask m i h h').length = max h.length h'.length
  | [], h', i => by simp [unmask]
  | o :: r, [], i => by simp [unmask, unmask_length (h := r) (h' := []) (i := i + 1)]
  | o :: r, o' :: r', i => by simp [unmask, unmask_length (h := r) (h' := r') (i := i + 1)]

theorem maskH_length {m : List Nat} : ∀ {h : SH} {i : Nat}, (maskH m i h).length = h.length
  | [], _ => rfl
  | o :: r, i => by simp [maskH, maskH_length (h := r)]

theorem maskH_eq {m : List Nat} : ∀ {h : SH} {i l : Nat}, hget (maskH m i h) l = if nmem (i + l) m = true then hget h l else .dead
  | [], i, l => by simp [maskH, hget]
  | o :: r, i, 0 => by
    simp only [maskH, hget, List.getD_cons_zero, Nat.add_zero]
    cases nmem i m <;> rfl
  | o :: r, i, l + 1 => by
    have := @maskH_eq m r (i + 1) l
    simp only [hget, maskH, List.getD_cons_succ] at this ⊢
    rw [this, show i + 1 + l = i + (l + 1) by omega]

theorem aside_get {m ap : List Nat} : ∀ {h : SH} {i l : Nat}, aside m ap i h = true → l < h.length → nmem (i + l) m = false → mentO (fun l => nmem l ap) (hget h l) = false
  | [], i, l, _, hl, _ => by simp at hl
  | o :: r, i, 0, h, _, hm => by
    simp only [aside, Bool.and_eq_true, Bool.or_eq_true] at h
    rw [Nat.add_zero] at hm
    rcases h.1 with h1 | h1
    · rw [hm] at h1; cases h1
    · simpa [hget] using h1
  | o :: r, i, l + 1, h, hl, hm => by
    simp only [aside, Bool.and_eq_true] at h
    have := aside_get (h := r) (i := i + 1) (l := l) h.2 (by simpa using hl) (by rw [show i + 1 + l = i + (l + 1) by omega]; exact hm)
    simpa [hget] using this

theorem rowsIn_sub {h : SH} : ∀ {m : List Nat} {l : Nat}, l ∈ rowsIn h m → l ∈ m
  | [], l, hl => by simp [rowsIn] at hl
  | x :: r, l, hl => by
    simp only [rowsIn] at hl
    split at hl
    · rcases List.mem_cons.1 hl with rfl | hl
      · simp
      · exact List.mem_cons_of_mem _ (rowsIn_sub hl)
    · rcases List.mem_cons.1 hl with rfl | hl
      · simp
      · exact List.mem_cons_of_mem _ (rowsIn_sub hl)
    · exact List.mem_cons_of_mem _ (rowsIn_sub hl)

theorem inlAp_sub {w : Bool} {m : List Nat} {h : SH} {l : Nat} (hl : l ∈ inlAp w m h) : l ∈ m := by
  cases w with
  | true => exact rowsIn_sub hl
  | false => simp [inlAp] at hl

 mutual
theorem SRep.frm {cx : Cx} {w : World} {f : Nat → Prop} : ∀ (x : SV) (u : Value), SRep cx w x u → SRep { cx with fr := f } w x u
  | .d x, u, h | .ptr l o, u, h | .pe l i o, u, h | .rp sz g o, u, h | .own l, u, h | .cs l o sz n c, u, h | .mp l, u, h | .top, u, h => by simp only [SRep] at h ⊢; try exact h
  | .fn q a b, u, h => by
    simp only [SRep] at h ⊢
    obtain ⟨a', b', e, ha, hb⟩ := h
    exact ⟨a', b', e, SRepL.frm a a' ha, SRepL.frm b b' hb⟩
  | .agg c, u, h | .tup c, u, h => by
    simp only [SRep] at h ⊢
    obtain ⟨c', e, hc⟩ := h
    exact ⟨c', e, SRepL.frm c c' hc⟩
theorem SRepL.frm {cx : Cx} {w : World} {f : Nat → Prop} : ∀ (c : List SV) (c' : List Value), SRepL cx w c c' → SRepL { cx with fr := f } w c c'
  | [], [], _ => by simp only [SRepL]
  | x :: r, v :: vs, h => by simp only [SRepL] at h ⊢; exact ⟨SRep.frm x v h.1, SRepL.frm r vs h.2⟩
  | [], _ :: _, h => by simp [SRepL] at h
  | _ :: _, [], h => by simp [SRepL] at h
end

theorem SRepE.frm {cx : Cx} {w : World} {f : Nat → Prop} : ∀ (c : List (Value × SV)) (c' : List (Value × Value)), SRepE cx w c c' → SRepE { cx with fr := f } w c c'
  | [], [], _ => by simp only [SRepE]
  | (q, x) :: r, (q', v) :: vs, h => by simp only [SRepE] at h ⊢; exact ⟨h.1, SRep.frm x v h.2.1, SRepE.frm r vs h.2.2⟩
  | [], _ :: _, h => by simp [SRepE] at h
  | _ :: _, [], h => by simp [SRepE] at h

theorem ORep.frm {cx : Cx} {w : World} {f : Nat → Prop} {l : Nat} {o : SO} (h : ORep cx w l o) : ORep { cx with fr := f } w l o := by
  cases o with
  | cells t c => obtain ⟨t', c', h1, h2⟩ := h; exact ⟨t', c', h1, h2.frm⟩
  | maps es => obtain ⟨e, c, h1, h2⟩ := h; exact ⟨e, c, h1, h2.frm⟩
  | _ => exact h

section
variable {P : Program} {A : Ann} {Ω : Type}

theorem inl_ok {env : Env Ω} {env' : Env (SV × SH)} (he : EnvOK P env') (hp : EnvPar env env') (hmix : P.follows .mixedOrders = true) {g : Nat} {fn : Func} (hf : P.funcs[g]? = some fn) (hname : (fn.name == "runtime.NumGoroutine") = false) {C : CF} (hC : coF P fn = some C) (w : Bool) :
    SpecOK P g (inl env A C w) := by
  have hbody : ∃ c, fn.body = some c := by
    unfold coF at hC
    split at hC
    · rename_i c hb; exact ⟨c, hb⟩
    · cases hC
  obtain ⟨c, hb⟩ := hbody
  refine ⟨fun args w => ?_, fun args h k out hs => ?_⟩
  · have h1 : fn.name ≠ "runtime.NumGoroutine" := by simpa using hname
    simp [callFunc, hf, h1, hb]
  · unfold inl at hs
    generalize hm : clos h 100000 (locsDL args) [] = m at hs
    dsimp only at hs
    generalize hap : inlAp w m h = ap at hs
    have hsub : ∀ l, nmem l m = false → nmem l ap = false := fun l hl => nmem_iff.2 fun h1 => nmem_iff.1 hl (by rw [← hap] at h1; exact inlAp_sub h1)
    obtain ⟨hasd, hs⟩ := cond_some hs
    obtain ⟨r, h', h1, h2⟩ := sxFn_par hp hs
    obtain ⟨hle, h1⟩ := cond_some h1
    have hle := Nat.le_of_ble_eq_true hle
    generalize htr : trim h.length r m h' = ht at h1 hle
    refine ⟨r, m, ap, _, h1, ⟨by rw [unmask_length]; omega, fun l hl hlm => ?_⟩, fun cx w0 vals hg ha => ?_⟩
    · rw [unmask_get, if_pos ⟨hl, by rw [Nat.zero_add]; exact hlm⟩]
    let fr' : Nat → Prop := fun b => cx.fr b ∨ ∃ l, nmem l m = false ∧ liv cx h l ∧ b = cx.th l
    have hml : ∀ l, hget (maskH m 0 h) l = if nmem l m = true then hget h l else .dead := fun l => by rw [maskH_eq, Nat.zero_add]
    have hlivm : ∀ l, liv { cx with fr := fr' } (maskH m 0 h) l → nmem l m = true ∧ liv cx h l := fun l hl => by
      unfold liv at hl
      rw [hml] at hl
      cases hb : nmem l m with
      | true => rw [hb, if_pos rfl] at hl; exact ⟨rfl, hl⟩
      | false => rw [hb, if_neg (by simp)] at hl; exact hl.elim
    have hgs : Gam { cx with fr := fr' } (maskH m 0 h) w0 := by
      refine ⟨by simp only [maskH_length]; exact hg.n, fun l => ?_, fun l hl => hg.lt l (hlivm l hl).2, fun l hl hhd => ?_, fun l l' hl hl' e => hg.inj l l' (hlivm l hl).2 (hlivm l' hl').2 e, fun b hb => ?_, fun b hb hf => ?_⟩
      · rw [hml]; split
        · exact (hg.obj l).frm
        · trivial
      · rcases hhd with h3 | h3 | ⟨l', h3, h4, h5⟩
        · exact hg.own l (hlivm l hl).2 (.inl h3)
        · exact hg.own l (hlivm l hl).2 (.inr h3)
        · have := hg.inj l l' (hlivm l hl).2 h4 h5
          subst this
          rw [(hlivm l hl).1] at h3; cases h3
      · rcases hb with h3 | h3 | ⟨l', h3, h4, h5⟩
        · exact hg.fzlt b (.inl h3)
        · exact hg.fzlt b (.inr h3)
        · rw [h5]; exact hg.lt l' h4
      · rcases hf with h3 | ⟨l', h3, h4, h5⟩
        · exact hg.dj b hb h3
        · subst h5; exact hg.own l' h4 (.inl hb)
    have hcalls := fn_calls (A := { A with n0 := h.length, ap := ap }) he hmix hf hC (h2 fun r h => some (r, h)) _ w0 vals hgs ha.frm
    refine hcalls.mono fun e w' ⟨v, cxq, e1, grq, hrq, hGq⟩ => ?_
    obtain ⟨cxs, hG, hr, hgrow⟩ := trim_sound (n0 := h.length) (m := m) hGq hrq
    have gr := hgrow (by simp only [hg.n]; exact Nat.le_refl _) grq
    rw [htr] at hG
    clear hGq hrq grq hgrow htr
    have hfr : cxs.fr = fr' := gr.fr
    have hp0 : ∀ l, l < h.length → nmem l ap = false → ({ A with n0 := h.length, ap := ap } : Ann).p l = false := fun l hl h3 => by
      simp only [Ann.p, Ann.ok, h3, Bool.or_false]
      cases hb : Nat.ble h.length l with
      | false => rfl
      | true => have := Nat.le_of_ble_eq_true hb; omega
    have gr' : Grow (fun l => nmem l ap) cx w0 { cxs with fr := cx.fr } w' := ⟨gr.fz, fun b hb => gr.same b (hb.imp id .inl), gr.size, fun l hl hpl => gr.loc l hl (hp0 l (hg.n ▸ hl) hpl), rfl, gr.io⟩
    have hul : ∀ l, hget (unmask m 0 h ht) l = if l < h.length ∧ nmem l m = false then hget h l else hget ht l := fun l => by rw [unmask_get, Nat.zero_add]
    have hold : ∀ l, l < h.length ∧ nmem l m = false → liv { cxs with fr := cx.fr } (unmask m 0 h ht) l → liv cx h l ∧ cxs.th l = cx.th l ∧ fr' (cx.th l) := fun l hc hl => by
      obtain ⟨_, k2, _, _, k5, _⟩ := gr'.loc l (by rw [hg.n]; exact hc.1) (hsub l hc.2)
      have hl' : liv cx h l := by
        unfold liv at hl ⊢
        rw [hul, if_pos hc] at hl
        simp only at k5
        rw [k5] at hl
        exact hl
      exact ⟨hl', k2, .inr ⟨l, hc.2, hl', rfl⟩⟩
    have hnew : ∀ l, ¬ (l < h.length ∧ nmem l m = false) → liv { cxs with fr := cx.fr } (unmask m 0 h ht) l → liv cxs ht l := fun l hc hl => by
      unfold liv at hl ⊢
      rw [hul, if_neg hc] at hl
      exact hl
    refine ⟨v, { cxs with fr := cx.fr }, e1, gr', hr.frm, ⟨?_, fun l => ?_, fun l hl => ?_, fun l hl hhd => ?_, fun l l' hl hl' e => ?_, fun b hb => ?_, fun b hb hf => ?_⟩⟩
    · simp only [unmask_length]; rw [hG.n]; omega
    · rw [hul]
      split
      · rename_i hc
        have hsame : liv cx h l → w'.heap[cx.th l]? = w0.heap[cx.th l]? := fun hl => gr.same _ (.inr (.inr ⟨l, hc.2, hl, rfl⟩))
        refine ORep.mono gr' (by rw [hg.n]; exact hc.1) (hsub l hc.2) _ (aside_get (i := 0) hasd hc.1 (by rw [Nat.zero_add]; exact hc.2)) ⟨fun xs t k e hn => hsame ?_, fun t sz n f e hn => hsame ?_, fun h1 h2 h3 => hsame ?_⟩ (hg.obj l)
        · simp [liv, e, hn]
        · simp [liv, e, hn]
        · cases ho : hget h l with
          | dead => exact absurd ho h3
          | rowi t k xs => exact absurd ho (h1 xs t k)
          | row t sz n f => exact absurd ho (h2 t sz n f)
          | _ => simp [liv, ho]
      · exact (hG.obj l).frm
    · by_cases hc : l < h.length ∧ nmem l m = false
      · obtain ⟨k1, k2, _⟩ := hold l hc hl
        simp only [k2]
        exact Nat.lt_of_lt_of_le (hg.lt l k1) gr.size
      · exact hG.lt l (hnew l hc hl)
    · by_cases hc : l < h.length ∧ nmem l m = false
      · obtain ⟨k1, k2, k3⟩ := hold l hc hl
        rcases hhd with h3 | h3
        · simp only [k2] at h3
          exact hG.dj _ h3 (hfr ▸ k3)
        · simp only [k2] at h3
          exact hg.own l k1 (.inr h3)
      · refine hG.own l (hnew l hc hl) ?_
        rcases hhd with h3 | h3
        · exact .inl h3
        · exact .inr (hfr ▸ .inl h3)
    · by_cases hc : l < h.length ∧ nmem l m = false <;> by_cases hc' : l' < h.length ∧ nmem l' m = false
      · obtain ⟨k1, k2, _⟩ := hold l hc hl
        obtain ⟨j1, j2, _⟩ := hold l' hc' hl'
        simp only [k2, j2] at e
        exact hg.inj l l' k1 j1 e
      · obtain ⟨k1, k2, k3⟩ := hold l hc hl
        simp only [k2] at e
        exact absurd (.inr (by rw [hfr, ← e]; exact k3)) (hG.own l' (hnew l' hc' hl'))
      · obtain ⟨k1, k2, k3⟩ := hold l' hc' hl'
        simp only [k2] at e
        exact absurd (.inr (by rw [hfr, e]; exact k3)) (hG.own l (hnew l hc hl))
      · exact hG.inj l l' (hnew l hc hl) (hnew l' hc' hl') e
    · rcases hb with h3 | h3
      · exact hG.fzlt b (.inl h3)
      · exact hG.fzlt b (.inr (hfr ▸ .inl h3))
    · exact hG.dj b hb (hfr ▸ .inl hf)

theorem inl_par {Ω' : Type} {env : Env Ω} {env' : Env Ω'} (hp : EnvPar env env') {C : CF} {w : Bool} (args : List SV) (h : SH) (k : SV → List Nat → List Nat → SH → Option Ω) (out : Ω) (hs : inl env A C w args h k = some out) :
    ∃ r m sc h', k r m sc h' = some out ∧ ∀ k', inl env' A C w args h k' = k' r m sc h' := by
  unfold inl at hs ⊢
  dsimp only at hs ⊢
  obtain ⟨e1, hs⟩ := cond_some hs
  obtain ⟨r, h', h1, h2⟩ := sxFn_par (Ω' := Ω') hp hs
  obtain ⟨e2, h1⟩ := cond_some h1
  exact ⟨_, _, _, _, h1, fun k' => by simp only [e1, cond_true]; rw [h2]; simp only [e2, cond_true]⟩
end
end Go.Sx
