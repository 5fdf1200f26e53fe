/- A callee's body run in place: its spec is its code, on that part of the heap which its arguments reach. -/
import Derived.Test.YtaejdljgfmclpaaGreatSxPar2
import Derived.WalkKit
import Derived.ProofKit
import Derived.OpenShut
import Derived.ReadAgain
set_option linter.all false
set_option linter.unusedVariables false
set_option linter.unusedSimpArgs false
set_option linter.unnecessarySimpa false
namespace Go.Sx

def unmask (m : List Nat) : Nat → SH → SH → SH
  | _, [], h' => h'
  | i, o :: r, [] => (bif nmem i m then .dead else o) :: unmask m (i + 1) r []
  | i, o :: r, o' :: r' => (bif nmem i m then o' else o) :: unmask m (i + 1) r r'

/-- What neither the result nor the locs of m reach is given up. -/
def trim (n0 : Nat) (r : SV) (m : List Nat) (h : SH) : SH :=
  let ks := clos h 100000 (locsD r ++ m) []
  let h2 := fadeH ks n0 0 h
  let n1 := max n0 (topOf ks)
  bif ment (Nat.ble n1) r || mentH (Nat.ble n1) (h2.take n1) then h2 else h2.take n1

/-- The rows among these locs. -/
def rowsIn (h : SH) : List Nat → List Nat
  | [] => []
  | l :: r => match hget h l with
    | .rowi .. | .row .. => l :: rowsIn h r
    | _ => rowsIn h r

/-- Those beyond mention none of these locs. -/
def aside (m ap : List Nat) : Nat → SH → Bool
  | _, [] => true
  | i, o :: r => (nmem i m || !(mentO (fun l => nmem l ap) o)) && aside m ap (i + 1) r

def inlAp (w : Bool) (m : List Nat) (h : SH) : List Nat := bif w then rowsIn h m else []

/-- The spec of a function whose body is run in place; w: it may append to rows that it reaches. -/
def inl {Ω : Type} (env : Env Ω) (A : Ann) (C : CF) (w : Bool) : Spec Ω := fun args h k =>
  let m := clos h 100000 (locsDL args) []
  let ap := inlAp w m h
  bif aside m ap 0 h then
    sxFn env { A with n0 := h.length, ap := ap } C args (maskH m 0 h) fun r h' => bif Nat.ble h.length (trim h.length r m h').length then k r m ap (unmask m 0 h (trim h.length r m h')) else none
  else none

theorem trim_sound {cx : Cx} {w : World} {r : SV} {v : Value} {m : List Nat} {n0 : Nat} {h : SH} (hg : Gam cx h w) (hr : SRep cx w r v) :
    ∃ cx', Gam cx' (trim n0 r m h) w ∧ SRep cx' w r v ∧ ∀ {p : Nat → Bool} {cx1 : Cx} {w1 : World}, cx1.n ≤ n0 → Grow p cx1 w1 cx w → Grow p cx1 w1 cx' w := by
  unfold trim
  dsimp only
  generalize clos h 100000 (locsD r ++ m) [] = ks
  obtain ⟨f1, f2⟩ := @fadeH_spec ks n0 h 0
  have hg2 := hg.fade f1 f2
  generalize fadeH ks n0 0 h = h2 at *
  generalize hn : max n0 (topOf ks) = n1
  cases hb : (ment (Nat.ble n1) r || mentH (Nat.ble n1) (h2.take n1)) with
  | true => exact ⟨cx, hg2, hr, fun _ g => g⟩
  | false =>
    rw [Bool.or_eq_false_iff] at hb
    refine ⟨{ cx with n := min n1 cx.n }, ⟨by simp [hg2.n], fun l => ?_, fun l hl => hg2.lt l (liv_take hl), fun l hl => hg2.own l (liv_take hl), fun l m hl hm => hg2.inj l m (liv_take hl) (liv_take hm), hg2.fzlt, hg2.dj⟩, SRep.cut r v hb.1 hr, fun hle g => ⟨g.fz, g.same, g.size, fun l hl hp => ?_, g.fr, g.io⟩⟩
    · have h1 := mentH_get hb.2 l
      simp only [cond_false]
      rw [hget_take] at h1 ⊢
      split
      · rename_i h; rw [if_pos h] at h1; exact ORep.cut h1 (hg2.obj l)
      · trivial
    · obtain ⟨h1, h2⟩ := g.loc l hl hp
      exact ⟨by simp only; omega, h2⟩

theorem unmask_get {m : List Nat} : ∀ {h h' : SH} {i l : Nat}, hget (unmask m i h h') l = if l < h.length ∧ nmem (i + l) m = false then hget h l else hget h' l
  | [], h', i, l => by simp [unmask]
  | o :: r, [], i, 0 => by
    simp only [unmask, hget, List.getD_cons_zero, Nat.add_zero, List.length_cons]
    cases nmem i m <;> simp
  | o :: r, [], i, l + 1 => by
    have := @unmask_get m r [] (i + 1) l
    simp only [unmask, hget, List.getD_cons_succ, List.length_cons] at this ⊢
    rw [this, show i + 1 + l = i + (l + 1) by omega]
    simp
  | o :: r, o' :: r', i, 0 => by
    simp only [unmask, hget, List.getD_cons_zero, Nat.add_zero, List.length_cons]
    cases nmem i m <;> simp
  | o :: r, o' :: r', i, l + 1 => by
    have := @unmask_get m r r' (i + 1) l
    simp only [unmask, hget, List.getD_cons_succ, List.length_cons] at this ⊢
    rw [this, show i + 1 + l = i + (l + 1) by omega]
    simp

theorem unmask_length {m : List Nat} : ∀ {h h' : SH} {i : Nat}, (unmask m i h h').length = max h.length h'.length
  | [], h', i => by simp [unmask]
  | o :: r, [], i => by simp [unmask, unmask_length (h := r) (h' := []) (i := i + 1)]
  | o :: r, o' :: r', i => by simp [unmask, unmask_length (h := r) (h' := r') (i := i + 1)]

theorem maskH_length {m : List Nat} : ∀ {h : SH} {i : Nat}, (maskH m i h).length = h.length
  | [], _ => rfl
  | o :: r, i => by simp [maskH, maskH_length (h := r)]

theorem maskH_eq {m : List Nat} : ∀ {h : SH} {i l : Nat}, hget (maskH m i h) l = if nmem (i + l) m = true then hget h l else .dead
  | [], i, l => by simp [maskH, hget]
  | o :: r, i, 0 => by
    simp only [maskH, hget, List.getD_cons_zero, Nat.add_zero]
    cases nmem i m <;> rfl
  | o :: r, i, l + 1 => by
    have := @maskH_eq m r (i + 1) l
    simp only [hget, maskH, List.getD_cons_succ] at this ⊢
    rw [this, show i + 1 + l = i + (l + 1) by omega]

theorem aside_get {m ap : List Nat} : ∀ {h : SH} {i l : Nat}, aside m ap i h = true → l < h.length → nmem (i + l) m = false → mentO (fun l => nmem l ap) (hget h l) = false
  | [], i, l, _, hl, _ => by simp at hl
  | o :: r, i, 0, h, _, hm => by
    simp only [aside, Bool.and_eq_true, Bool.or_eq_true] at h
    rw [Nat.add_zero] at hm
    rcases h.1 with h1 | h1
    · rw [hm] at h1; cases h1
    · simpa [hget] using h1
  | o :: r, i, l + 1, h, hl, hm => by
    simp only [aside, Bool.and_eq_true] at h
    have := aside_get (h := r) (i := i + 1) (l := l) h.2 (by simpa using hl) (by rw [show i + 1 + l = i + (l + 1) by omega]; exact hm)
    simpa [hget] using this

theorem rowsIn_sub {h : SH} : ∀ {m : List Nat} {l : Nat}, l ∈ rowsIn h m → l ∈ m
  | [], l, hl => by simp [rowsIn] at hl
  | x :: r, l, hl => by
    simp only [rowsIn] at hl
    split at hl
    · rcases List.mem_cons.1 hl with rfl | hl
      · simp
      · exact List.mem_cons_of_mem _ (rowsIn_sub hl)
    · rcases List.mem_cons.1 hl with rfl | hl
      · simp
      · exact List.mem_cons_of_mem _ (rowsIn_sub hl)
    · exact List.mem_cons_of_mem _ (rowsIn_sub hl)

theorem inlAp_sub {w : Bool} {m : List Nat} {h : SH} {l : Nat} (hl : l ∈ inlAp w m h) : l ∈ m := by
  cases w with
  | true => exact rowsIn_sub hl
  | false => simp [inlAp] at hl

section
variable {P : Program} {A : Ann} {Ω : Type}

theorem inl_ok {env : Env Ω} {env' : Env (SV × SH)} (he : EnvOK P env') (hp : EnvPar env env') (hmix : P.follows .mixedOrders = true) {g : Nat} {fn : Func} (hf : P.funcs[g]? = some fn) (hname : (fn.name == "runtime.NumGoroutine") = false) {C : CF} (hC : coF P fn = some C) (w : Bool) :
    SpecOK P g (inl env A C w) := by
  have hbody : ∃ c, fn.body = some c := by
    unfold coF at hC
    split at hC
    · rename_i c hb; exact ⟨c, hb⟩
    · cases hC
  obtain ⟨c, hb⟩ := hbody
  refine ⟨fun args w => ?_, fun args h k out hs => ?_⟩
  · have h1 : fn.name ≠ "runtime.NumGoroutine" := by simpa using hname
    simp [callFunc, hf, h1, hb]
  · unfold inl at hs
    generalize hm : clos h 100000 (locsDL args) [] = m at hs
    dsimp only at hs
    generalize hap : inlAp w m h = ap at hs
    have hsub : ∀ l, nmem l m = false → nmem l ap = false := fun l hl => nmem_iff.2 fun h1 => nmem_iff.1 hl (by rw [← hap] at h1; exact inlAp_sub h1)
    obtain ⟨hasd, hs⟩ := cond_some hs
    obtain ⟨r, h', h1, h2⟩ := sxFn_par hp hs
    obtain ⟨hle, h1⟩ := cond_some h1
    have hle := Nat.le_of_ble_eq_true hle
    generalize htr : trim h.length r m h' = ht at h1 hle
    refine ⟨r, m, ap, _, h1, ⟨by rw [unmask_length]; omega, fun l hl hlm => ?_⟩, fun cx w0 vals hg ha => ?_⟩
    · rw [unmask_get, if_pos ⟨hl, by rw [Nat.zero_add]; exact hlm⟩]
    let fr' : Nat → Prop := fun b => cx.fr b ∨ ∃ l, nmem l m = false ∧ liv cx h l ∧ b = cx.th l
    have hml : ∀ l, hget (maskH m 0 h) l = if nmem l m = true then hget h l else .dead := fun l => by rw [maskH_eq, Nat.zero_add]
    have hlivm : ∀ l, liv { cx with fr := fr' } (maskH m 0 h) l → nmem l m = true ∧ liv cx h l := fun l hl => by
      unfold liv at hl
      rw [hml] at hl
      cases hb : nmem l m with
      | true => rw [hb, if_pos rfl] at hl; exact ⟨rfl, hl⟩
      | false => rw [hb, if_neg (by simp)] at hl; exact hl.elim
    have hgs : Gam { cx with fr := fr' } (maskH m 0 h) w0 := by
      refine ⟨by simp only [maskH_length]; exact hg.n, fun l => ?_, fun l hl => hg.lt l (hlivm l hl).2, fun l hl hhd => ?_, fun l l' hl hl' e => hg.inj l l' (hlivm l hl).2 (hlivm l' hl').2 e, fun b hb => ?_, fun b hb hf => ?_⟩
      · rw [hml]; split
        · exact (hg.obj l).frm
        · trivial
      · rcases hhd with h3 | h3 | ⟨l', h3, h4, h5⟩
        · exact hg.own l (hlivm l hl).2 (.inl h3)
        · exact hg.own l (hlivm l hl).2 (.inr h3)
        · have := hg.inj l l' (hlivm l hl).2 h4 h5
          subst this
          rw [(hlivm l hl).1] at h3; cases h3
      · rcases hb with h3 | h3 | ⟨l', h3, h4, h5⟩
        · exact hg.fzlt b (.inl h3)
        · exact hg.fzlt b (.inr h3)
        · rw [h5]; exact hg.lt l' h4
      · rcases hf with h3 | ⟨l', h3, h4, h5⟩
        · exact hg.dj b hb h3
        · subst h5; exact hg.own l' h4 (.inl hb)
    have hcalls := fn_calls (A := { A with n0 := h.length, ap := ap }) he hmix hf hC (h2 fun r h => some (r, h)) _ w0 vals hgs ha.frm
    refine hcalls.mono fun e w' ⟨v, cxq, e1, grq, hrq, hGq⟩ => ?_
    obtain ⟨cxs, hG, hr, hgrow⟩ := trim_sound (n0 := h.length) (m := m) hGq hrq
    have gr := hgrow (by simp only [hg.n]; exact Nat.le_refl _) grq
    rw [htr] at hG
    clear hGq hrq grq hgrow htr
    have hfr : cxs.fr = fr' := gr.fr
    have hp0 : ∀ l, l < h.length → nmem l ap = false → ({ A with n0 := h.length, ap := ap } : Ann).p l = false := fun l hl h3 => by
      simp only [Ann.p, Ann.ok, h3, Bool.or_false]
      cases hb : Nat.ble h.length l with
      | false => rfl
      | true => have := Nat.le_of_ble_eq_true hb; omega
    have gr' : Grow (fun l => nmem l ap) cx w0 { cxs with fr := cx.fr } w' := ⟨gr.fz, fun b hb => gr.same b (hb.imp id .inl), gr.size, fun l hl hpl => gr.loc l hl (hp0 l (hg.n ▸ hl) hpl), rfl, gr.io⟩
    have hul : ∀ l, hget (unmask m 0 h ht) l = if l < h.length ∧ nmem l m = false then hget h l else hget ht l := fun l => by rw [unmask_get, Nat.zero_add]
    have hold : ∀ l, l < h.length ∧ nmem l m = false → liv { cxs with fr := cx.fr } (unmask m 0 h ht) l → liv cx h l ∧ cxs.th l = cx.th l ∧ fr' (cx.th l) := fun l hc hl => by
      obtain ⟨_, k2, _, _, k5, _⟩ := gr'.loc l (by rw [hg.n]; exact hc.1) (hsub l hc.2)
      have hl' : liv cx h l := by
        unfold liv at hl ⊢
        rw [hul, if_pos hc] at hl
        simp only at k5
        rw [k5] at hl
        exact hl
      exact ⟨hl', k2, .inr ⟨l, hc.2, hl', rfl⟩⟩
    have hnew : ∀ l, ¬ (l < h.length ∧ nmem l m = false) → liv { cxs with fr := cx.fr } (unmask m 0 h ht) l → liv cxs ht l := fun l hc hl => by
      unfold liv at hl ⊢
      rw [hul, if_neg hc] at hl
      exact hl
    refine ⟨v, { cxs with fr := cx.fr }, e1, gr', hr.frm, ⟨?_, fun l => ?_, fun l hl => ?_, fun l hl hhd => ?_, fun l l' hl hl' e => ?_, fun b hb => ?_, fun b hb hf => ?_⟩⟩
    · simp only [unmask_length]; rw [hG.n]; omega
    · rw [hul]
      split
      · rename_i hc
        have hsame : liv cx h l → w'.heap[cx.th l]? = w0.heap[cx.th l]? := fun hl => gr.same _ (.inr (.inr ⟨l, hc.2, hl, rfl⟩))
        refine ORep.mono gr' (by rw [hg.n]; exact hc.1) (hsub l hc.2) _ (aside_get (i := 0) hasd hc.1 (by rw [Nat.zero_add]; exact hc.2)) ⟨fun xs t k e hn => hsame ?_, fun t sz n f e hn => hsame ?_, fun h1 h2 h3 => hsame ?_⟩ (hg.obj l)
        · simp [liv, e, hn]
        · simp [liv, e, hn]
        · cases ho : hget h l with
          | dead => exact absurd ho h3
          | rowi t k xs => exact absurd ho (h1 xs t k)
          | row t sz n f => exact absurd ho (h2 t sz n f)
          | _ => simp [liv, ho]
      · exact (hG.obj l).frm
    · by_cases hc : l < h.length ∧ nmem l m = false
      · obtain ⟨k1, k2, _⟩ := hold l hc hl
        simp only [k2]
        exact Nat.lt_of_lt_of_le (hg.lt l k1) gr.size
      · exact hG.lt l (hnew l hc hl)
    · by_cases hc : l < h.length ∧ nmem l m = false
      · obtain ⟨k1, k2, k3⟩ := hold l hc hl
        rcases hhd with h3 | h3
        · simp only [k2] at h3
          exact hG.dj _ h3 (hfr ▸ k3)
        · simp only [k2] at h3
          exact hg.own l k1 (.inr h3)
      · refine hG.own l (hnew l hc hl) ?_
        rcases hhd with h3 | h3
        · exact .inl h3
        · exact .inr (hfr ▸ .inl h3)
    · by_cases hc : l < h.length ∧ nmem l m = false <;> by_cases hc' : l' < h.length ∧ nmem l' m = false
      · obtain ⟨k1, k2, _⟩ := hold l hc hl
        obtain ⟨j1, j2, _⟩ := hold l' hc' hl'
        simp only [k2, j2] at e
        exact hg.inj l l' k1 j1 e
      · obtain ⟨k1, k2, k3⟩ := hold l hc hl
        simp only [k2] at e
        exact absurd (.inr (by rw [hfr, ← e]; exact k3)) (hG.own l' (hnew l' hc' hl'))
      · obtain ⟨k1, k2, k3⟩ := hold l' hc' hl'
        simp only [k2] at e
        exact absurd (.inr (by rw [hfr, e]; exact k3)) (hG.own l (hnew l hc hl))
      · exact hG.inj l l' (hnew l hc hl) (hnew l' hc' hl') e
    · rcases hb with h3 | h3
      · exact hG.fzlt b (.inl h3)
      · exact hG.fzlt b (.inr (hfr ▸ .inl h3))
    · exact hG.dj b hb (hfr ▸ .inl hf)

theorem inl_par {Ω' : Type} {env : Env Ω} {env' : Env Ω'} (hp : EnvPar env env') {C : CF} {w : Bool} (args : List SV) (h : SH) (k : SV → List Nat → List Nat → SH → Option Ω) (out : Ω) (hs : inl env A C w args h k = some out) :
    ∃ r m sc h', k r m sc h' = some out ∧ ∀ k', inl env' A C w args h k' = k' r m sc h' := by
  unfold inl at hs ⊢
  dsimp only at hs ⊢
  obtain ⟨e1, hs⟩ := cond_some hs
  obtain ⟨r, h', h1, h2⟩ := sxFn_par (Ω' := Ω') hp hs
  obtain ⟨e2, h1⟩ := cond_some h1
  exact ⟨_, _, _, _, h1, fun k' => by simp only [e1, cond_true]; rw [h2]; simp only [e2, cond_true]⟩
end
end Go.Sx

/- From a run on symbolic arguments to a law's statement. -/
namespace Go.Sx

/-- Nothing is owned; all that stands is data. -/
def cx0 (w : World) : Cx := { n := 0, th := fun _ => 0, ln := fun _ => 0, cp := fun _ => 0, nl := fun _ => false, rs := fun _ => 0, fz := fun b => b < w.heap.size, fr := fun _ => False }

theorem gam0 (w : World) : Gam (cx0 w) [] w := by
  refine ⟨rfl, fun l => ?_, fun l hl => ?_, fun l hl => ?_, fun l m hl => ?_, fun b hb => ?_, fun b _ hf => hf⟩
  · simp [hget, ORep]
  · simp [liv, hget] at hl
  · simp [liv, hget] at hl
  · simp [liv, hget] at hl
  · rcases hb with hb | hb
    · exact hb
    · exact hb.elim

theorem same_of_grow {p : Nat → Bool} {w w' : World} {cx' : Cx} (g : Grow p (cx0 w) w cx' w') : ∀ b, b < w.heap.size → w'.heap[b]? = w.heap[b]? := fun b hb => g.same b (.inl hb)

/-- What was there stays as it was; memory may have grown. -/
def GrownL (W w' : World) : Prop := W.keptBut w' (fun _ => False) ∧ (∀ a, a.block < W.heap.size → w'.frozen? a = W.frozen? a) ∧ W.heap.size ≤ w'.heap.size

theorem GrownL.frame {W w' : World} (h : GrownL W w') (may : MemPlace → Prop) : W.keptBut w' may := World.keptBut_mono (fun _ f => f.elim) h.1

theorem grown_of {p : Nat → Bool} {w w' : World} {cx' : Cx} (g : Grow p (cx0 w) w cx' w') : GrownL w w' := by
  refine ⟨⟨g.io.os, g.io.out, fun i hi => ?_⟩, g.io.frz, g.size⟩
  rw [same_of_grow g i hi]
  have := (World.keptBut_refl w (fun _ => False)).2.2 i hi
  exact this

/-- A law that runs to true on symbolic arguments which its arguments meet. -/
theorem law_calls {P : Program} {A : Ann} {env : Env (SV × SH)} (he : EnvOK P env) (hmix : P.follows .mixedOrders = true) {g : Nat} {fn : Func} (hf : P.funcs[g]? = some fn) {C : CF} (hC : coF P fn = some C) {args : List SV} {h' : SH}
    (hrun : sxFn env A C args [] (fun r h => some (r, h)) = some (.d (.v (.bool true)), h')) {w : World} {vals : List Value} (ha : SRepL (cx0 w) w args vals) :
    Calls P g ⟨vals⟩ w fun e w' => e = .returned (.bool true) ∧ GrownL w w' ∧ ∀ b, b < w.heap.size → w'.heap[b]? = w.heap[b]? := by
  refine (fn_calls he hmix hf hC hrun (cx0 w) w vals (gam0 w) ha).mono fun e w' ⟨v, cx', e1, gr, hr, _⟩ => ?_
  rw [bool_of hr] at e1
  exact ⟨e1, grown_of gr, same_of_grow gr⟩

theorem place_lt {H : Type} {enc : TypeId × Value → H} {P : Program} {w : World} {ts : List TypeId} {vs : List Value} {ds : List (DataW H)} {ps : List MemPlace} : DataW.TrodAll enc P w 0 (fun _ => true) true ts vs ds ps → ∀ p ∈ ps, p.block < w.heap.size := by
  intro h
  induction ts generalizing vs ds ps with
  | nil =>
    cases vs <;> cases ds <;> simp [DataW.TrodAll] at h
    subst h; simp
  | cons t ts ih =>
    cases vs <;> cases ds <;> simp [DataW.TrodAll] at h
    obtain ⟨p, ⟨n, hp⟩, q, hq, rfl⟩ := h
    intro x hx
    rcases List.mem_append.1 hx with hx | hx
    · exact DataW.trod_lt n _ _ _ hp x hx
    · exact ih hq x hx

theorem trodAll_carry {H : Type} {enc : TypeId × Value → H} {P : Program} {w w' : World} {sp : Nat → Bool} {ts : List TypeId} {vs : List Value} {ds : List (DataW H)} {ps : List MemPlace} (h : DataW.TrodAll enc P w 0 sp true ts vs ds ps)
    (hs : ∀ p ∈ ps, w.sameAt w' p) : DataW.TrodAll enc P w' 0 sp true ts vs ds ps := by
  induction ts generalizing vs ds ps with
  | nil => cases vs <;> cases ds <;> simp [DataW.TrodAll] at h ⊢; exact h
  | cons t ts ih =>
    cases vs <;> cases ds <;> simp [DataW.TrodAll] at h ⊢
    obtain ⟨p, ⟨n, hp⟩, q, hq, rfl⟩ := h
    exact ⟨p, ⟨n, DataW.trod_carry n _ _ _ hp fun x hx => hs x (by simp [hx])⟩, q, ih hq fun x hx => hs x (by simp [hx]), rfl⟩

/-- The arguments read afterwards as they did. -/
theorem args_again {H : Type} {enc : TypeId × Value → H} {P : Program} (hl : laidOutB P = true) (hm : mapsRowed P = true) (hz : ∀ t e, t < P.types.size → P.underlying t = some (.slice e) → 0 < P.cellsOf e)
    {w w' : World} {ts : List TypeId} (hts : ∀ t ∈ ts, t < P.types.size) {vs : List Value} {ds : List (DataW H)} {ps : List MemPlace} (h : DataW.TrodAll enc P w 0 (fun _ => true) true ts vs ds ps)
    (hsame : ∀ b, b < w.heap.size → w'.heap[b]? = w.heap[b]?) {sp : Nat → Bool} (hsp : ∀ p ∈ ps, sp p.block = true) : DataW.TrodAll enc P w' 0 sp true ts vs ds ps := by
  refine trodAll_carry (DataW.TrodAll.respare (kids_rows hl hm) hz hts h hsp) fun p hp => ?_
  have := place_lt h p hp
  cases p with
  | cell b off => simp only [World.sameAt, World.cell?]; rw [hsame b this]
  | map b => exact hsame b this

section
open Go.ChangeShapes Go.WideShapes
/-- The answer of a law: what it was given is as it was, whatever new blocks stand behind. -/
theorem post_of_old {H : Type} {enc : TypeId × Value → H} {P : Program} {f : Func} {s : ChangeSpec} {apart fresh handsOn again : Bool} {W W' : World} {args : Array Value} {v : Value} {ds gs : List (DataW H)} {before : List MemPlace}
    (hW : DataW.Whole enc P f.params.toList s.vars apart W args.toList ds gs before)
    (hr : ∀ (b : Nat) (sp : Nat → Bool) (hd : Bool), DataW.TrodAll enc P W' b sp hd f.resultTypes.toList (v.resultList f.resultTypes.size) (s.fn H (ds ++ gs)).results [])
    (ha : ∀ sp : Nat → Bool, (∀ p ∈ before, sp p.block = true) → DataW.TrodAll enc P W' 0 sp true f.params.toList args.toList (s.fn H (ds ++ gs)).args before)
    (hv : ∀ sp : Nat → Bool, (∀ p ∈ before, sp p.block = true) → DataW.TrodVars enc P W' sp s.vars (s.fn H (ds ++ gs)).vars [])
    (hg : GrownL W W')
    (hok : ∀ (j : Nat) (t : TypeId) (r : Value), f.resultTypes[j]? = some t → (v.resultList f.resultTypes.size)[j]? = some r → Value.okWide P W' .any 0 t r) :
    s.post enc P f apart fresh handsOn again W args v W' := by
  have old : ∀ p ∈ before, p.block < W.heap.size := fun p hp => hW.lt p hp
  have all := hW
  obtain ⟨_, _, _, _, _, hz, hn⟩ := all
  refine ⟨ds, gs, before, [], before, [], hW, hr _ _ _, ha _ (fun p hp => decide_eq_true (old p hp)), hv _ (fun p hp => decide_eq_true (old p hp)), World.keptBut_mono (fun p hp => ⟨hp, Or.inr (by simpa using hp)⟩) (hg.frame (· ∈ before)), fun _ => ⟨hok, _, _, ([] ++ before) ++ [], ⟨[] ++ before, [], trodAll_append (ha _ (fun _ _ => rfl)) (hr _ _ _), hv _ (fun _ _ => rfl), rfl, fun b off hp => ?_, fun h => by simpa using hn h⟩, fun p hp _ => by simpa using hp⟩⟩
  have hp' : MemPlace.cell b off ∈ before := by simpa using hp
  rw [hg.2.1 _ (old _ hp')]
  exact hz b off hp'
end
end Go.Sx

/- What a law's arguments are, as symbolic data. -/
namespace Go.Sx

/-- Data of a type: the integers fit, no row is too long. -/
def Wt (P : Program) : Nat → TypeId → List DV → Prop
  | 0, _, _ => False
  | n + 1, t, l => match P.underlying t with
    | some .bool => ∃ b, l = [.v (.bool b)]
    | some (.int k) => ∃ x, l = [.v (.int k x)] ∧ (Lit.int k x).wf = true
    | some .string => ∃ s : ByteArray, l = [.v (.string s)] ∧ s.size ≤ maxLen
    | some (.slice e) => match P.underlying e with
      | some (.int k) => ∃ xs : List Int, l = [.ints k xs] ∧ xs.length ≤ maxLen ∧ ∀ x ∈ xs, (Lit.int k x).wf = true
      | _ => ∃ m f, l = [.sl (P.cellsOf e) m f] ∧ m ≤ maxLen ∧ ∀ i, i < m → Wt P n e ((List.range (P.cellsOf e)).map (f i))
    | some (.struct fs) => l.length = P.cellsOf t ∧ ∀ f ∈ fs.toList, Wt P n f.type ((l.drop f.offset).take (P.cellsOf f.type))
    | some (.array m e) => l.length = P.cellsOf t ∧ ∀ i, i < m → Wt P n e ((l.drop (i * P.cellsOf e)).take (P.cellsOf e))
    | _ => False

/-- The types that are served. -/
def suppT (P : Program) : Nat → TypeId → Bool
  | 0, _ => false
  | n + 1, t => match P.underlying t with
    | some .bool | some (.int _) | some .string => true
    | some (.slice e) => suppT P n e
    | some (.struct fs) => fs.toList.all fun f => suppT P n f.type
    | some (.array _ e) => suppT P n e
    | _ => false

def DRepL (fz : Nat → Prop) (w : World) (l : List DV) (cs : List Value) : Prop := l.length = cs.length ∧ ∀ j, j < l.length → DRep fz w (l.getD j (.v undef)) (cs.getD j undef)

theorem DRepL.one {fz : Nat → Prop} {w : World} {x : DV} {v : Value} (h : DRep fz w x v) : DRepL fz w [x] [v] := ⟨rfl, fun j hj => by
  have : j = 0 := by simpa using hj
  subst this; simpa using h⟩

theorem DRepL.part {fz : Nat → Prop} {w : World} {l : List DV} {cs : List Value} (h : DRepL fz w l cs) (o n : Nat) : DRepL fz w ((l.drop o).take n) ((cs.drop o).take n) := by
  refine ⟨by simp [h.1], fun j hj => ?_⟩
  simp only [List.length_take, List.length_drop] at hj
  have := h.2 (o + j) (by omega)
  simp only [List.getD_eq_getElem?_getD, List.getElem?_take, List.getElem?_drop] at this ⊢
  rw [if_pos (by omega), if_pos (by omega)]; exact this

theorem glue {fz : Nat → Prop} {w : World} {cs : List Value} : ∀ (items : List (Nat × Nat × (List DV → Prop))) (o : Nat),
    (∀ (j : Nat) x, items[j]? = some x → x.1 = o + ((items.take j).map (·.2.1)).sum) → (∀ x ∈ items, ∃ l, x.2.2 l ∧ DRepL fz w l ((cs.drop x.1).take x.2.1) ∧ l.length = x.2.1) →
    ∃ l : List DV, l.length = (items.map (·.2.1)).sum ∧ (∀ j, j < l.length → DRep fz w (l.getD j (.v undef)) (cs.getD (o + j) undef)) ∧ ∀ x ∈ items, x.2.2 ((l.drop (x.1 - o)).take x.2.1)
  | [], o, _, _ => ⟨[], rfl, by simp, by simp⟩
  | x :: r, o, ho, hl => by
    have hx : x.1 = o := by simpa using ho 0 x rfl
    obtain ⟨l1, h1, h2, h3⟩ := hl x (by simp)
    obtain ⟨l2, k1, k2, k3⟩ := glue (cs := cs) r (o + x.2.1) (fun j y hy => by
      have := ho (j + 1) y (by simpa using hy)
      simp only [List.take_succ_cons, List.map_cons, List.sum_cons] at this
      omega) fun y hy => hl y (by simp [hy])
    refine ⟨l1 ++ l2, by simp [h3, k1], fun j hj => ?_, fun y hy => ?_⟩
    · rcases Nat.lt_or_ge j l1.length with h | h
      · have := h2.2 j h
        simp only [List.getD_eq_getElem?_getD, List.getElem?_take, List.getElem?_drop, List.getElem?_append_left h] at this ⊢
        rw [if_pos (by omega), hx] at this; exact this
      · have := k2 (j - l1.length) (by simp at hj; omega)
        simp only [List.getD_eq_getElem?_getD, List.getElem?_append_right h] at this ⊢
        rw [show o + j = o + x.2.1 + (j - l1.length) by omega]; exact this
    · rcases List.mem_cons.1 hy with rfl | hy
      · rw [hx, Nat.sub_self, List.drop_zero, ← h3, List.take_left]; exact h1
      · obtain ⟨j, hj⟩ := List.getElem?_of_mem hy
        have hyo := ho (j + 1) y (by simpa using hj)
        simp only [List.take_succ_cons, List.map_cons, List.sum_cons] at hyo
        have := k3 y hy
        rw [List.drop_append, List.drop_of_length_le (by omega), List.nil_append, show y.1 - o - l1.length = y.1 - (o + x.2.1) by omega]
        exact this

theorem cell_ad {w : World} {a : Addr} {v : Value} (h : w.cell? a = some v) : a = ad a.block a.off ∧ a.block < w.heap.size := by
  obtain ⟨b, o, m⟩ := a
  simp only [World.cell?, ad] at h ⊢
  split at h
  · rename_i c t f hb
    cases m with
    | none => exact ⟨rfl, (Array.getElem?_eq_some_iff.1 hb).1⟩
    | some _ => simp at h
  · cases h

theorem ad_add (b o n : Nat) : (ad b o).add n = ad b (o + n) := by
  unfold Addr.add ad
  split
  · rename_i h; subst h; rfl
  · rfl

theorem sum_take_le : ∀ (l : List Nat) (j : Nat), j < l.length → (l.take j).sum + l.getD j 0 ≤ l.sum
  | x :: r, 0, _ => by simp
  | x :: r, j + 1, h => by
    have := sum_take_le r j (by simpa using h)
    simp only [List.take_succ_cons, List.sum_cons, List.getD_cons_succ]; omega

section
variable {H : Type} {enc : TypeId × Value → H} {P : Program} {w : World}

/-- The cells of a slice's elements. -/
theorem elems_of {n len : Nat} {e : TypeId} {a : Addr} {elems : List (DataW H × List MemPlace)} (h : (List.range len).mapM (fun i => (w.cells? 0 (a.add (i * P.cellsOf e)) (P.cellsOf e)).bind (DataW.trod enc P w 0 (fun _ => true) true n e)) = some elems) :
    ∀ i, i < len → ∃ ci x, DataW.trod enc P w 0 (fun _ => true) true n e ci = some x ∧ ci.length = P.cellsOf e ∧ ∀ j, j < P.cellsOf e → w.cell? ((a.add (i * P.cellsOf e)).add j) = ci[j]? := by
  intro i hi
  have h1 := mapM_some_get h i i (by simp [hi])
  have hl := mapM_some_length h
  rw [List.getElem?_eq_getElem (by rw [hl]; simpa using hi)] at h1
  obtain ⟨ci, h2, h3⟩ := Option.bind_eq_some_iff.1 h1
  obtain ⟨_, h4, h5⟩ := World.cells?_some h2
  exact ⟨ci, _, h3, h4, h5⟩

theorem Wt_int {n : Nat} {e : TypeId} {k : IntKind} (he : P.underlying e = some (.int k)) {l : List DV} (h : Wt P n e l) : ∃ x, l = [.v (.int k x)] ∧ (Lit.int k x).wf = true := by
  cases n with
  | zero => exact h.elim
  | succ n => simp only [Wt, he] at h; exact h

theorem add_zero' (a : Addr) : a.add 0 = a := by simp [Addr.add]

theorem part_len {cs : List Value} {o n : Nat} (h : o + n ≤ cs.length) : ((cs.drop o).take n).length = n := by simp; omega

theorem trod_dv (K : Kids P (fun t => t < P.types.size)) (hz : ∀ t e, t < P.types.size → P.underlying t = some (.slice e) → 0 < P.cellsOf e) : ∀ (n : Nat) (t : TypeId) (cs : List Value) (x : DataW H × List MemPlace), t < P.types.size → suppT P n t = true →
    DataW.trod enc P w 0 (fun _ => true) true n t cs = some x → ∃ l, Wt P n t l ∧ DRepL (fun b => b < w.heap.size) w l cs := by
  intro n
  induction n with
  | zero => intro t cs x _ _ h; simp [DataW.trod] at h
  | succ n ih =>
    intro t cs x ht hs h
    unfold DataW.trod at h
    simp only [suppT] at hs
    simp only [Wt]
    cases hu : P.underlying t with
    | none => rw [hu] at hs; cases hs
    | some d =>
    cases d <;> simp only [hu] at hs h ⊢ <;> (try (cases hs; done))
    case bool =>
      split at h <;> rename_i hq <;> first | (cases h; done) | (cases hq; done) | skip
      rename_i b
      exact ⟨_, ⟨b, rfl⟩, .one (by simp [DRep, cellV])⟩
    case int k =>
      split at h <;> rename_i hq <;> first | (cases h; done) | (cases hq; done) | skip
      rename_i k1 k' m
      cases hq
      split at h
      · rename_i hw
        obtain ⟨rfl, hw⟩ := hw
        exact ⟨_, ⟨m, rfl, hw⟩, .one (by simp [DRep, cellV])⟩
      · cases h
    case string =>
      split at h <;> rename_i hq <;> first | (cases h; done) | (cases hq; done) | skip
      rename_i s
      split at h
      · rename_i hw
        exact ⟨_, ⟨s, rfl, hw⟩, .one (by simp [DRep, cellV])⟩
      · cases h
    case slice e =>
      split at h <;> rename_i hq <;> first | (cases h; done) | (cases hq; done) | skip
      · split
        · rename_i k _
          exact ⟨_, ⟨[], rfl, by simp [maxLen], by simp⟩, .one ⟨none, 0, rfl, Nat.le_refl _, by simp⟩⟩
        · exact ⟨_, ⟨0, fun _ _ => .v undef, rfl, by simp [maxLen], fun i hi => absurd hi (by omega)⟩, .one ⟨none, 0, rfl, Nat.le_refl _, by simp⟩⟩
      · rename_i e' a len cap
        cases hq
        split at h
        · rename_i hb
          obtain ⟨elems, hel, h⟩ := Option.bind_eq_some_iff.1 h
          have hE := elems_of hel
          have hc := hz t e ht hu
          have hL : ∀ i, ∃ l, i < len → Wt P n e l ∧ l.length = P.cellsOf e ∧ ∀ j, j < P.cellsOf e → ∃ v, w.cell? ((a.add (i * P.cellsOf e)).add j) = some v ∧ DRep (fun b => b < w.heap.size) w (l.getD j (.v undef)) v := fun i => by
            by_cases hi : i < len
            · obtain ⟨ci, y, h1, h2, h3⟩ := hE i hi
              obtain ⟨l, h4, h5, h6⟩ := ih e ci y (K.slice ht hu) hs h1
              refine ⟨l, fun _ => ⟨h4, by rw [h5, h2], fun j hj => ?_⟩⟩
              have hjc : j < ci.length := by omega
              refine ⟨ci[j], by rw [h3 j hj]; exact List.getElem?_eq_getElem hjc, ?_⟩
              have := h6 j (by omega)
              rw [List.getD_eq_getElem?_getD (l := ci), List.getElem?_eq_getElem hjc] at this
              exact this
            · exact ⟨[], fun h => absurd h hi⟩
          obtain ⟨L, hL⟩ := Classical.axiomOfChoice hL
          have hA : 0 < len → a = ad a.block a.off ∧ a.block < w.heap.size := fun hp => by
            obtain ⟨v, h1, _⟩ := (hL 0 hp).2.2 0 hc
            rw [Nat.zero_mul, add_zero', add_zero'] at h1
            exact cell_ad h1
          have hcell : ∀ i, i < len → ∀ j, j < P.cellsOf e → ∃ v, w.cell? (ad a.block (a.off + (i * P.cellsOf e + j))) = some v ∧ DRep (fun b => b < w.heap.size) w ((L i).getD j (.v undef)) v := fun i hi j hj => by
            obtain ⟨v, h1, h2⟩ := (hL i hi).2.2 j hj
            rw [(hA (by omega)).1, ad_add, ad_add, Nat.add_assoc] at h1
            exact ⟨v, h1, h2⟩
          split
          · rename_i k he
            have hX : ∀ i, ∃ x, i < len → L i = [.v (.int k x)] ∧ (Lit.int k x).wf = true := fun i => by
              by_cases hi : i < len
              · obtain ⟨x, hx⟩ := Wt_int he (hL i hi).1
                exact ⟨x, fun _ => hx⟩
              · exact ⟨0, fun h => absurd h hi⟩
            obtain ⟨X, hX⟩ := Classical.axiomOfChoice hX
            have h1 : 0 < len → P.cellsOf e = 1 := fun hp => by rw [← (hL 0 hp).2.1, (hX 0 hp).1]; rfl
            refine ⟨_, ⟨(List.range len).map X, rfl, by simp; omega, fun x hx => ?_⟩, .one ⟨some a, cap, by simp, by simp; omega, fun hne => ?_⟩⟩
            · obtain ⟨i, hi, rfl⟩ := List.mem_map.1 hx
              exact (hX i (List.mem_range.1 hi)).2
            · have hp : 0 < len := by
                rcases Nat.eq_zero_or_pos len with h | h
                · subst h; simp at hne
                · exact h
              refine ⟨a.block, a.off, by rw [← (hA hp).1], (hA hp).2, fun i hi => ?_⟩
              have hi' : i < len := by simpa using hi
              obtain ⟨v, h2, h3⟩ := hcell i hi' 0 hc
              rw [h1 hp, Nat.mul_one, Nat.add_zero] at h2
              rw [(hX i hi').1] at h3
              simp only [List.getD_cons_zero, DRep] at h3
              rw [h2, h3.1]
              simp [List.getD_eq_getElem?_getD, hi']
          · refine ⟨_, ⟨len, fun i j => (L i).getD j (.v undef), rfl, by omega, fun i hi => ?_⟩, .one ⟨some a, cap, rfl, by omega, fun hne => ?_⟩⟩
            · have hl := (hL i hi).2.1
              have : (List.range (P.cellsOf e)).map (fun j => (L i).getD j (.v undef)) = L i := by
                apply List.ext_getElem
                · simp [hl]
                · intro j h1 h2
                  simp [List.getD_eq_getElem?_getD, h2]
              rw [this]; exact (hL i hi).1
            · have hp : 0 < len := Nat.pos_of_ne_zero hne
              exact ⟨a.block, a.off, by rw [← (hA hp).1], (hA hp).2, fun i hi j hj => hcell i hi j hj⟩
        · cases h
    case struct fs =>
      split at h
      · rename_i hlen
        obtain ⟨xs, hxs, rfl⟩ := Option.map_eq_some_iff.1 h
        obtain ⟨hk, hsum, hoff⟩ := K.struct ht hu
        have hat : ∀ (j : Nat) (f : Field), fs.toList[j]? = some f → f.offset + P.cellsOf f.type ≤ cs.length := fun j f hj => by
          have hjl := (List.getElem?_eq_some_iff.1 hj).1
          have := sum_take_le (fs.toList.map fun f => P.cellsOf f.type) j (by simpa using hjl)
          rw [hlen, hsum, hoff j f hj]
          simp only [List.getD_eq_getElem?_getD, List.getElem?_map, hj, Option.map_some, Option.getD_some, ← List.map_take] at this
          exact this
        obtain ⟨l, k1, k2, k3⟩ := glue (fz := fun b => b < w.heap.size) (w := w) (cs := cs) (fs.toList.map fun f => (f.offset, P.cellsOf f.type, Wt P n f.type)) 0 (fun j y hy => by
          rw [List.getElem?_map] at hy
          obtain ⟨f, hf, rfl⟩ := Option.map_eq_some_iff.1 hy
          simp only [← List.map_take, List.map_map]
          rw [Nat.zero_add]
          exact hoff j f hf) (fun y hy => by
          obtain ⟨f, hf, rfl⟩ := List.mem_map.1 hy
          obtain ⟨j, hj⟩ := List.getElem?_of_mem hf
          have h1 := mapM_some_get hxs j f hj
          have h2 := mapM_some_length hxs
          rw [List.getElem?_eq_getElem (by rw [h2]; exact (List.getElem?_eq_some_iff.1 hj).1)] at h1
          obtain ⟨l, h3, h4⟩ := ih f.type _ _ (hk f hf) (List.all_eq_true.1 hs f hf) h1
          exact ⟨l, h3, h4, by rw [h4.1]; exact part_len (hat j f hj)⟩)
        have hll : l.length = cs.length := by rw [k1, hlen, hsum]; simp [List.map_map, Function.comp_def]
        refine ⟨l, ⟨by rw [hll, hlen], fun f hf => ?_⟩, hll, fun j hj => by simpa using k2 j hj⟩
        have := k3 _ (List.mem_map.2 ⟨f, hf, rfl⟩)
        simpa using this
      · cases h
    case array m e =>
      split at h
      · rename_i hlen
        obtain ⟨xs, hxs, rfl⟩ := Option.map_eq_some_iff.1 h
        obtain ⟨hk, hsum⟩ := K.array ht hu
        have hat : ∀ j, j < m → j * P.cellsOf e + P.cellsOf e ≤ cs.length := fun j hj => by
          rw [hlen, hsum]
          have : (j + 1) * P.cellsOf e ≤ m * P.cellsOf e := Nat.mul_le_mul_right _ hj
          rw [Nat.add_mul, Nat.one_mul] at this; exact this
        have hsums : ∀ j, (((List.range j).map fun i => (i * P.cellsOf e, P.cellsOf e, Wt P n e)).map (·.2.1)).sum = j * P.cellsOf e := fun j => by
          induction j with
          | zero => simp
          | succ j ihj => rw [List.range_succ, List.map_append, List.map_append, List.sum_append, ihj, Nat.add_mul]; simp
        obtain ⟨l, k1, k2, k3⟩ := glue (fz := fun b => b < w.heap.size) (w := w) (cs := cs) ((List.range m).map fun i => (i * P.cellsOf e, P.cellsOf e, Wt P n e)) 0 (fun j y hy => by
          have hjm : j < m := by have := (List.getElem?_eq_some_iff.1 hy).1; simpa using this
          rw [List.getElem?_map, List.getElem?_range hjm] at hy
          simp only [Option.map_some, Option.some.injEq] at hy
          subst hy
          rw [← List.map_take, List.take_range, Nat.min_eq_left (Nat.le_of_lt hjm), hsums, Nat.zero_add]) (fun y hy => by
          obtain ⟨i, hi, rfl⟩ := List.mem_map.1 hy
          have him := List.mem_range.1 hi
          have h1 := mapM_some_get hxs i i (by simp [him])
          have h2 := mapM_some_length hxs
          rw [List.getElem?_eq_getElem (by rw [h2]; simpa using him)] at h1
          obtain ⟨l, h3, h4⟩ := ih e _ _ hk hs h1
          exact ⟨l, h3, h4, by rw [h4.1]; exact part_len (hat i him)⟩)
        have hll : l.length = cs.length := by rw [k1, hsums, hlen, hsum]
        refine ⟨l, ⟨by rw [hll, hlen], fun i hi => ?_⟩, hll, fun j hj => by simpa using k2 j hj⟩
        have := k3 _ (List.mem_map.2 ⟨i, List.mem_range.2 hi, rfl⟩)
        simpa using this
      · cases h
end
end Go.Sx
namespace Go.Sx
section
variable {H : Type} {enc : TypeId × Value → H} {P : Program} {w : World}

/-- One argument of a served type. -/
theorem arg_rep (K : Kids P (fun t => t < P.types.size)) (hz : ∀ t e, t < P.types.size → P.underlying t = some (.slice e) → 0 < P.cellsOf e) {t : TypeId} (ht : t < P.types.size) {m : Nat} (hs : ∀ n, suppT P (n + m) t = true)
    {v : Value} {d : DataW H} {p : List MemPlace} (h : DataW.Trod enc P w 0 (fun _ => true) true t v d p) : ∃ n l, Wt P (n + m) t l ∧ DRepL (fun b => b < w.heap.size) w l v.cells.toList := by
  obtain ⟨n, h⟩ := h
  have := DataW.trod_le (Nat.le_add_right n m) h
  obtain ⟨l, h1, h2⟩ := trod_dv K hz (n + m) t _ _ ht (hs n) this
  exact ⟨n, l, h1, h2⟩
end
end Go.Sx

/- Environments put together one callee at a time. -/
namespace Go.Sx

def enil {Ω : Type} : Env Ω := fun _ => none
def econs {Ω : Type} (n : Nat) (s : Spec Ω) (env : Env Ω) : Env Ω := fun g => bif Nat.beq g n then some s else env g

def SpecPar {Ω Ω' : Type} (sp : Spec Ω) (sp' : Spec Ω') : Prop := ∀ args h k out, sp args h k = some out → ∃ r m sc h', k r m sc h' = some out ∧ ∀ k', sp' args h k' = k' r m sc h'

theorem EnvOK.nil {P : Program} {Ω : Type} : EnvOK P (enil (Ω := Ω)) := fun g sp h => by cases h
theorem EnvPar.nil {Ω Ω' : Type} : EnvPar (enil (Ω := Ω)) (enil (Ω := Ω')) := fun g sp h => by cases h

theorem EnvOK.cons {P : Program} {Ω : Type} {n : Nat} {s : Spec Ω} {env : Env Ω} (h : SpecOK P n s) (he : EnvOK P env) : EnvOK P (econs n s env) := fun g sp hg => by
  unfold econs at hg
  cases hb : Nat.beq g n with
  | true =>
    rw [hb] at hg
    simp only [cond_true, Option.some.injEq] at hg
    subst hg
    rw [nbeq.1 hb]; exact h
  | false => rw [hb] at hg; exact he g sp hg

theorem EnvPar.cons {Ω Ω' : Type} {n : Nat} {s : Spec Ω} {s' : Spec Ω'} {env : Env Ω} {env' : Env Ω'} (h : SpecPar s s') (he : EnvPar env env') : EnvPar (econs n s env) (econs n s' env') := fun g sp hg => by
  unfold econs at hg ⊢
  cases hb : Nat.beq g n with
  | true =>
    rw [hb] at hg
    simp only [cond_true, Option.some.injEq] at hg
    subst hg
    exact ⟨s', rfl, h⟩
  | false => rw [hb] at hg; exact he g sp hg

/-- A spec for every result type. -/
structure Good1 (P : Program) (n : Nat) (s : {Ω : Type} → Spec Ω) : Prop where
  ok : ∀ Ω, SpecOK P n (s (Ω := Ω))
  par : ∀ Ω Ω', SpecPar (s (Ω := Ω)) (s (Ω := Ω'))

structure GoodE (P : Program) (e : {Ω : Type} → Env Ω) : Prop where
  ok : ∀ Ω, EnvOK P (e (Ω := Ω))
  par : ∀ Ω Ω', EnvPar (e (Ω := Ω)) (e (Ω := Ω'))

theorem GoodE.nil {P : Program} : GoodE P enil := ⟨fun _ => .nil, fun _ _ => .nil⟩
theorem GoodE.cons {P : Program} {n : Nat} {s : {Ω : Type} → Spec Ω} {e : {Ω : Type} → Env Ω} (h : Good1 P n s) (he : GoodE P e) : GoodE P (fun {Ω} => econs n (s (Ω := Ω)) (e (Ω := Ω))) :=
  ⟨fun Ω => (he.ok Ω).cons (h.ok Ω), fun Ω Ω' => (he.par Ω Ω').cons (h.par Ω Ω')⟩

theorem Good1.inl {P : Program} {e : {Ω : Type} → Env Ω} (he : GoodE P e) (hmix : P.follows .mixedOrders = true) {g : Nat} {fn : Func} (hf : P.funcs[g]? = some fn) (hname : (fn.name == "runtime.NumGoroutine") = false) {C : CF} (hC : coF P fn = some C) (A : Ann) (w : Bool) :
    Good1 P g (fun {Ω} => inl (e (Ω := Ω)) A C w) :=
  ⟨fun Ω => inl_ok (he.ok _) (he.par Ω _) hmix hf hname hC w, fun Ω Ω' => inl_par (he.par Ω Ω')⟩
end Go.Sx

/- Contracts by hand. -/
namespace Go.Sx

/-- A fresh row of integers, handed over to the caller's context. -/
theorem fresh_row {cx : Cx} {h : SH} {w : World} (hg : Gam cx h w) {d : Nat → Prop} {p : Nat → Bool} {cxs : Cx} {w' : World} {h' : SH} (gr : Grow p (cxL w d) w cxs w') (hG : Gam cxs h' w') {l : Nat} {t : TypeId} {k : IntKind} {xs : List Int} {v : Value}
    (hr : SRep cxs w' (.own l) v) (ho : hget h' l = .rowi t k xs) : ∃ cx', Grow0 cx w cx' w' ∧ SRep cx' w' (.own h.length) v ∧ Gam cx' (h ++ [.rowi t k xs]) w' := by
  have hsame : ∀ b, b < w.heap.size → w'.heap[b]? = w.heap[b]? := fun b hb => gr.same b (cxL_all hb)
  obtain ⟨g1, gr1⟩ := Gam.later hg hsame gr.size gr.io
  have hobj := hG.obj l
  rw [ho] at hobj
  simp only [ORep] at hobj
  have hT := Gam.take g1 (.rowi t k xs) (cxs.th l) (cxs.ln l) (cxs.cp l) (cxs.nl l) (cxs.rs l) (by simpa [ORep, Cx.ext] using hobj) (fun hl => by
    have hnl : cxs.nl l = false := by
      have e : hget (h ++ [SO.rowi t k xs]) cx.n = .rowi t k xs := by rw [hg.n]; exact hget_append_eq
      unfold liv at hl
      rw [e] at hl
      simpa [Cx.ext] using hl
    have hlv : liv cxs h' l := by simp [liv, ho, hnl]
    have hge : w.heap.size ≤ cxs.th l := by
      rcases Nat.lt_or_ge (cxs.th l) w.heap.size with h | h
      · exact absurd (gr.hd _ (cxL_all h)) (hG.own l hlv)
      · exact h
    exact ⟨hG.lt l hlv, fun hh => by have := hg.fzlt _ hh; omega, fun m hm e => by have := hg.lt m hm; omega⟩)
  refine ⟨_, gr1.trans hT.2, ?_, hT.1⟩
  simp only [SRep] at hr ⊢
  have hn := hg.n
  simp [Cx.ext, ← hn, hr.2]

/-- No literal with more elements than room. -/
def capOk : SV → Bool
  | .cs _ _ _ n c => Nat.ble n c
  | _ => true

theorem slice_ad {cx : Cx} {h : SH} {w : World} (g : Gam cx h w) {x : SV} {u : Value} (hx : SRep cx w x u) {kd : IntKind} {ys : List Int} (hi : intsOf h kd x = some ys) (hc : capOk x = true)
    {bb : Option Addr} {n cc : Nat} (hu : u = .slice bb n cc) : n ≤ cc ∧ (n = 0 ∨ bb = none ∨ ∃ b o, bb = some (ad b o)) := by
  unfold intsOf at hi
  split at hi
  · rename_i k' l
    simp only [SRep, DRep] at hx
    obtain ⟨a, c, e, hcc, hl⟩ := hx
    rw [e] at hu
    simp only [Value.slice.injEq] at hu
    obtain ⟨rfl, rfl, rfl⟩ := hu
    refine ⟨hcc, ?_⟩
    by_cases h0 : l = []
    · subst h0; exact .inl rfl
    · obtain ⟨b, o, e1, _⟩ := hl h0
      exact .inr (.inr ⟨b, o, e1⟩)
  · simp only [SRep, DRep] at hx
    rw [hx.1] at hu
    simp only [Value.slice.injEq] at hu
    obtain ⟨rfl, rfl, rfl⟩ := hu
    exact ⟨Nat.le_refl _, .inl rfl⟩
  · simp only [SRep, DRep] at hx
    rw [hx.1] at hu
    simp only [Value.slice.injEq] at hu
    obtain ⟨rfl, rfl, rfl⟩ := hu
    exact ⟨Nat.zero_le _, .inl rfl⟩
  · rename_i l
    have ho := g.obj l
    simp only [SRep] at hx
    split at hi
    · rename_i t k' xs hg
      rw [hg] at ho
      obtain ⟨hln, hrs, hcp, hnl, hb⟩ := ho
      rw [hx.2] at hu
      simp only [Value.slice.injEq] at hu
      obtain ⟨e1, rfl, rfl⟩ := hu
      refine ⟨by omega, ?_⟩
      cases hq : cx.nl l with
      | true => rw [hq] at e1; exact .inr (.inl e1.symm)
      | false => rw [hq] at e1; exact .inr (.inr ⟨_, _, e1.symm⟩)
    · simp at hi
  · rename_i l o' sz m c
    simp only [SRep] at hx
    rw [hx.2] at hu
    simp only [Value.slice.injEq] at hu
    obtain ⟨rfl, rfl, rfl⟩ := hu
    simp only [capOk] at hc
    exact ⟨Nat.le_of_ble_eq_true hc, .inr (.inr ⟨_, _, rfl⟩)⟩
  · simp at hi

theorem src_ad {cx : Cx} {h : SH} {w : World} (g : Gam cx h w) {x : SV} {u : Value} (hx : SRep cx w x u) {kd : IntKind} {ys : List Int} (hi : intsOf h kd x = some ys) (hc : capOk x = true) :
    ∃ bb cc, u = .slice bb ys.length cc ∧ ys.length ≤ cc ∧ (ys ≠ [] → ∃ b o, bb = some (ad b o) ∧ b < w.heap.size ∧ ∀ i, i < ys.length → w.cell? (ad b (o + i)) = some (.int kd (ys.getD i 0))) := by
  obtain ⟨bb, cc, s⟩ := src_ints g hx hi
  obtain ⟨h1, h2⟩ := slice_ad g hx hi hc s.val
  refine ⟨bb, cc, s.val, h1, fun hn => ?_⟩
  have hl : 0 < ys.length := List.length_pos_iff.2 hn
  rcases h2 with h2 | h2 | ⟨b, o, h2⟩
  · omega
  · have := s.nil h2
    simp at this
    exact absurd this hn
  · have hcell : ∀ i, i < ys.length → w.cell? (ad b (o + i)) = some (.int kd (ys.getD i 0)) := fun i hi => by
      have := s.cell _ h2 i (.int kd (ys.getD i 0)) (by simp [List.getD_eq_getElem?_getD, List.getElem?_eq_getElem hi])
      rwa [addr_add] at this
    refine ⟨b, o, h2, ?_, hcell⟩
    have := hcell 0 hl
    simp only [World.cell?, ad] at this
    cases hb : w.heap[b]? with
    | none => rw [hb] at this; simp at this
    | some q => exact (Array.getElem?_eq_some_iff.1 hb).1

/-- A row of integers that may be nil, handed over. -/
theorem nil_row {cx : Cx} {h : SH} {w w' : World} (hg : Gam cx h w) (hs : ∀ b, b < w.heap.size → w'.heap[b]? = w.heap[b]?) (hz : w.heap.size ≤ w'.heap.size) (hio : Io w w') (t : TypeId) (k : IntKind) :
    ∃ cx', Grow0 cx w cx' w' ∧ SRep cx' w' (.own h.length) (.slice none 0 0) ∧ Gam cx' (h ++ [.rowi t k []]) w' := by
  obtain ⟨g1, gr1⟩ := Gam.later hg hs hz hio
  have hT := Gam.take g1 (.rowi t k []) 0 0 0 true 1 (by simp [ORep, Cx.ext]) (fun hl => by
    have e : hget (h ++ [SO.rowi t k []]) cx.n = .rowi t k [] := by rw [hg.n]; exact hget_append_eq
    unfold liv at hl
    rw [e] at hl
    simp [Cx.ext] at hl)
  refine ⟨_, gr1.trans hT.2, ?_, hT.1⟩
  have hn := hg.n
  simp [SRep, Cx.ext, ← hn]

def sClone (k : IntKind) (t by_ : Nat) {Ω : Type} : Spec Ω := fun args h kk => match args with
  | [x] => bif capOk x then (match intsOf h k x with
    | some xs => br (fits xs.length by_) (kk (.own h.length) [] [] (h ++ [.rowi t k xs])) none
    | none => none) else none
  | _ => none

theorem clone_par {k : IntKind} {t by_ : Nat} {Ω Ω' : Type} : SpecPar (sClone k t by_ (Ω := Ω)) (sClone k t by_ (Ω := Ω')) := by
  intro args h kk out hs
  unfold sClone at hs ⊢
  split at hs
  · rename_i x
    cases hc : capOk x with
    | false => rw [hc] at hs; simp at hs
    | true =>
      rw [hc] at hs
      simp only [cond_true] at hs ⊢
      split at hs
      · rename_i xs hi
        cases hf : fits xs.length by_ with
        | false => rw [hf] at hs; simp [br] at hs
        | true =>
          rw [hf] at hs
          exact ⟨_, _, _, _, by simpa [br] using hs, fun k' => by simp [br]⟩
      · simp at hs
  · simp at hs

theorem clone_good {P : Program} {k : IntKind} {t by_ : Nat} {g : Nat} {fn : Func} (hf : P.funcs[g]? = some fn) (hname : (fn.name == "runtime.NumGoroutine") = false) {C : CF} (hC : coF P fn = some C) {A : Ann} {e : {Ω : Type} → Env Ω} (he : GoodE P e) (hmix : P.follows .mixedOrders = true)
    (r0 : ∀ cc, sxFn (e (Ω := SV × SH)) A C [.d (.v (.slice none 0 cc))] [] (fun r h => some (r, h)) = some (.d (.v (.slice none 0 0)), []))
    (r1 : ∀ a c, ∃ h' l, sxFn (e (Ω := SV × SH)) A C [.d (.v (.slice (some a) 0 c))] [] (fun r h => some (r, h)) = br (fits 0 by_) (some (.own l, h')) none ∧ hget h' l = .rowi t k [])
    (r2 : ∀ x r, ∃ h' l, sxFn (e (Ω := SV × SH)) A C [.d (.ints k (x :: r))] [] (fun r h => some (r, h)) = br (fits (r.length + 1) by_) (some (.own l, h')) none ∧ hget h' l = .rowi t k (x :: r)) :
    Good1 P g (fun {Ω} => sClone k t by_ (Ω := Ω)) := by
  have hbody : ∃ c, fn.body = some c := by
    unfold coF at hC
    split at hC
    · rename_i c hb; exact ⟨c, hb⟩
    · cases hC
  obtain ⟨c, hb⟩ := hbody
  have henter : ∀ (args : Array Value) (w : World), (callFunc g args).run P w = .ok (.enter g args) w := fun args w => by
    have h1 : fn.name ≠ "runtime.NumGoroutine" := by simpa using hname
    simp [callFunc, hf, h1, hb]
  refine ⟨fun Ω => ⟨henter, fun args h kk out hs => ?_⟩, fun Ω Ω' => clone_par⟩
  unfold sClone at hs
  split at hs
  · rename_i x
    cases hcap : capOk x with
    | false => rw [hcap] at hs; simp at hs
    | true =>
    rw [hcap] at hs
    simp only [cond_true] at hs
    split at hs
    · rename_i xs hi
      cases hft : fits xs.length by_ with
      | false => rw [hft] at hs; simp [br] at hs
      | true =>
      rw [hft] at hs
      refine ⟨_, _, _, _, by simpa [br] using hs, Keeps.new h _, fun cx w vals hg ha => ?_⟩
      match vals, ha with
      | [u], ha =>
        simp only [SRepL, and_true] at ha
        obtain ⟨bb, cc, e1, hle, hcell⟩ := src_ad hg ha hi hcap
        have conv : ∀ {p : Nat → Bool} {d : Nat → Prop} {cxs : Cx} {w' : World}, Grow p (cxL w d) w cxs w' → ∀ b, b < w.heap.size → w'.heap[b]? = w.heap[b]? := fun gr b hb => gr.same b (cxL_all hb)
        have nm : (fun l => nmem l []) = fun _ => false := funext fun l => by simp [nmem]
        rw [nm]
        match xs, e1, hle, hcell, hft, hi with
        | [], e1, hle, hcell, hft, hi =>
          match bb, e1 with
          | none, e1 =>
            refine (fn_calls (he.ok _) hmix hf hC (r0 cc) (cxL w (fun _ => False)) w [u] (gamL w _) (by simp [SRepL, SRep, DRep, cellV, e1])).mono fun e w' ⟨v, cxs, h1, gr, hr, hG⟩ => ?_
            simp only [SRep, DRep] at hr
            obtain ⟨cx', h2, h3, h4⟩ := nil_row hg (conv gr) gr.size gr.io t k
            exact ⟨v, cx', h1, h2, by rw [hr.1]; exact h3, h4⟩
          | some a, e1 =>
            obtain ⟨h', l, hrun, ho⟩ := r1 a cc
            have hft' : fits 0 by_ = true := by simpa using hft
            rw [hft'] at hrun
            simp only [br, cond_true] at hrun
            refine (fn_calls (he.ok _) hmix hf hC hrun (cxL w (fun _ => False)) w [u] (gamL w _) (by simp [SRepL, SRep, DRep, cellV, e1])).mono fun e w' ⟨v, cxs, h1, gr, hr, hG⟩ => ?_
            obtain ⟨cx', h2, h3, h4⟩ := fresh_row hg gr hG hr ho
            exact ⟨v, cx', h1, h2, h3, h4⟩
        | x' :: r, e1, hle, hcell, hft, hi =>
          obtain ⟨b, o, hb', hlt, hce⟩ := hcell (by simp)
          obtain ⟨h', l, hrun, ho⟩ := r2 x' r
          have hft' : fits (r.length + 1) by_ = true := by simpa using hft
          rw [hft'] at hrun
          simp only [br, cond_true] at hrun
          refine (fn_calls (he.ok _) hmix hf hC hrun (cxL w (fun q => q = b)) w [u] (gamL w _) (by
            simp only [SRepL, SRep, DRep, and_true]
            exact ⟨bb, cc, e1, hle, fun _ => ⟨b, o, hb', ⟨hlt, rfl⟩, hce⟩⟩)).mono fun e w' ⟨v, cxs, h1, gr, hr, hG⟩ => ?_
          obtain ⟨cx', h2, h3, h4⟩ := fresh_row hg gr hG hr ho
          exact ⟨v, cx', h1, h2, h3, h4⟩
      | [], ha => simp [SRepL] at ha
      | _ :: _ :: _, ha => simp [SRepL] at ha
    · simp at hs
  · simp at hs
end Go.Sx

/- A callee whose arguments reach nothing: it runs on an empty heap, and what it makes is set behind the caller's. -/
namespace Go.Sx

/-- A spec that answers only as another one does. -/
theorem Good1.sub {P : Program} {n : Nat} {s s' : {Ω : Type} → Spec Ω} (h : Good1 P n s) (hs : ∀ Ω args hh k out, s' (Ω := Ω) args hh k = some out → s (Ω := Ω) args hh k = some out) (hp : ∀ Ω Ω', SpecPar (s' (Ω := Ω)) (s' (Ω := Ω'))) : Good1 P n s' :=
  ⟨fun Ω => ⟨(h.ok Ω).1, fun args hh k out ho => (h.ok Ω).2 args hh k out (hs Ω args hh k out ho)⟩, hp⟩
end Go.Sx
