/- Contracts: a function of integers, aggregates of integers and slices of integers, known by what it answers. -/
import Derived.Test.YtpnnnklahanecaaSxFrame
set_option linter.unusedVariables false
set_option linter.unusedSimpArgs false
namespace Go.Sx

abbrev I (x : Int) : SV := .d (.v (.int .i64 x))
abbrev U (x : Int) : SV := .d (.v (.int .u64 x))
abbrev B (x : Bool) : SV := .d (.v (.bool x))

/-- The arguments' kinds: an integer, a boolean, a struct of integers, a slice of integers. -/
inductive AT where
  | i (k : IntKind)
  | b
  | g (ks : List IntKind)
  | s (k : IntKind)

def asK : List IntKind → List SV → Option (List Int)
  | [], [] => some []
  | k :: ks, .d (.v (.int k' x)) :: r => bif kEq k k' then (match asK ks r with | some l => some (x :: l) | none => none) else none
  | _, _ => none

def encK : List IntKind → List Int → List SV
  | k :: ks, x :: r => .d (.v (.int k x)) :: encK ks r
  | _, _ => []

def lendA (h : SH) : AT → SV → Option (List Int)
  | .i k, .d (.v (.int k' x)) => bif kEq k k' then some [x] else none
  | .b, .d (.v (.bool x)) => some [bif x then 1 else 0]
  | .g ks, .agg c => asK ks c
  | .s k, x => bif capOk x then intsOf h k x else none
  | _, _ => none

def encA : AT → List Int → SV
  | .i k, l => .d (.v (.int k (l.headD 0)))
  | .b, l => .d (.v (.bool (l.headD 0 == 1)))
  | .g ks, l => .agg (encK ks l)
  | .s k, l => .d (.ints k l)

def lendAs (h : SH) : List AT → List SV → Option (List (List Int))
  | [], [] => some []
  | t :: ts, x :: r => match lendA h t x, lendAs h ts r with
    | some a, some l => some (a :: l)
    | _, _ => none
  | _, _ => none

def encAs : List AT → List (List Int) → List SV
  | t :: ts, x :: r => encA t x :: encAs ts r
  | _, _ => []

/-- A function by its answer: the result, and the heap it leaves, its locs counted from 0. -/
def conSpec (ts : List AT) (F : List (List Int) → Option (Bool × SV × SH)) {Ω : Type} : Spec Ω := fun args h k =>
  match lendAs h ts args with
  | some l => match F l with
    | some (g, r, hr) => br g (k (shft h.length r) [] [] (h ++ shftH h.length hr)) none
    | none => none
  | none => none

 mutual
/-- Says nothing of data. -/
def Flat : SV → Prop
  | .d (.v _) => True
  | .d _ => False
  | .rp _ _ _ => False
  | .fn _ a b => FlatL a ∧ FlatL b
  | .agg c => FlatL c
  | .tup c => FlatL c
  | _ => True
def FlatL : List SV → Prop
  | [] => True
  | x :: r => Flat x ∧ FlatL r
end

def FlatO : SO → Prop
  | .cells _ c => FlatL c
  | .row _ _ _ f => ∀ i j, ∃ v, f i j = .v v
  | .maps _ => False
  | _ => True

def FlatH : SH → Prop
  | [] => True
  | o :: r => FlatO o ∧ FlatH r

theorem FlatH.get : ∀ {h : SH}, FlatH h → ∀ l, FlatO (hget h l)
  | [], _, l => by simp [hget, FlatO]
  | o :: r, hf, 0 => by simpa [hget] using hf.1
  | o :: r, hf, l + 1 => by simpa [hget] using FlatH.get hf.2 l

/-- Two contexts side by side; nothing new is frozen. -/
def cxK (cx cxs : Cx) : Cx := { cxJ cx cxs with fz := cx.fz }

section
variable {cx cxs : Cx} {w : World}
 mutual
theorem SRep.flat : ∀ (x : SV) (u : Value), Flat x → SRep cxs w x u → SRep (cxK cx cxs) w (shft cx.n x) u
  | .d (.v x), u, _, h => by simp only [SRep, Sx.shft, DRep] at h ⊢; exact h
  | .d (.ints _ _), u, hf, _ => by simp [Flat] at hf
  | .d (.sl _ _ _), u, hf, _ => by simp [Flat] at hf
  | .ptr l o, u, _, h => by
      simp only [SRep, Sx.shft] at h ⊢
      simp only [cxK, cxJ, at_J]; exact ⟨by omega, h.2⟩
  | .pe l i o, u, _, h => by
      simp only [SRep, Sx.shft] at h ⊢
      simp only [cxK, cxJ, at_J]; exact ⟨by omega, h.2⟩
  | .rp sz f o, u, hf, _ => by simp [Flat] at hf
  | .own l, u, _, h => by
      simp only [SRep, Sx.shft] at h ⊢
      simp only [cxK, cxJ, at_J]; exact ⟨by omega, h.2⟩
  | .cs l o sz m c, u, _, h => by
      simp only [SRep, Sx.shft] at h ⊢
      simp only [cxK, cxJ, at_J]; exact ⟨by omega, h.2⟩
  | .mp l, u, _, h => by
      simp only [SRep, Sx.shft] at h ⊢
      simp only [cxK, cxJ, at_J]; exact ⟨by omega, h.2⟩
  | .fn g a b, u, hf, h => by
      simp only [SRep, Sx.shft, Flat] at h hf ⊢
      obtain ⟨a', b', e, ha, hb⟩ := h
      exact ⟨a', b', e, SRepL.flat a a' hf.1 ha, SRepL.flat b b' hf.2 hb⟩
  | .agg c, u, hf, h => by
      simp only [SRep, Sx.shft, Flat] at h hf ⊢
      obtain ⟨c', e, hc⟩ := h
      exact ⟨c', e, SRepL.flat c c' hf hc⟩
  | .tup c, u, hf, h => by
      simp only [SRep, Sx.shft, Flat] at h hf ⊢
      obtain ⟨c', e, hc⟩ := h
      exact ⟨c', e, SRepL.flat c c' hf hc⟩
  | .top, u, _, _ => by simp only [SRep, Sx.shft]
theorem SRepL.flat : ∀ (c : List SV) (c' : List Value), FlatL c → SRepL cxs w c c' → SRepL (cxK cx cxs) w (shftL cx.n c) c'
  | [], [], _, _ => by simp only [SRepL, Sx.shftL]
  | x :: r, v :: vs, hf, h => by
      simp only [SRepL, Sx.shftL, FlatL] at h hf ⊢
      exact ⟨SRep.flat x v hf.1 h.1, SRepL.flat r vs hf.2 h.2⟩
  | [], _ :: _, _, h => by simp [SRepL] at h
  | _ :: _, [], _, h => by simp [SRepL] at h
end

theorem ORep.flat {l : Nat} : ∀ (o : SO), FlatO o → ORep cxs w l o → ORep (cxK cx cxs) w (cx.n + l) (shftO cx.n o)
  | .dead, _, _ => trivial
  | .cells t c, hf, h => by
    obtain ⟨t', c', h1, h2⟩ := h
    exact ⟨t', c', by simp only [cxK, cxJ, at_J]; exact h1, SRepL.flat c c' hf h2⟩
  | .rowi t k xs, _, h => by
    simp only [ORep, shftO] at h ⊢
    simp only [cxK, cxJ, at_J]; exact h
  | .row t sz n f, hf, h => by
    simp only [ORep, shftO] at h ⊢
    simp only [cxK, cxJ, at_J]
    refine ⟨h.1, h.2.1, h.2.2.1, h.2.2.2.1, fun hn => ?_⟩
    obtain ⟨t', c', h1, h2, h3⟩ := h.2.2.2.2 hn
    refine ⟨t', c', h1, h2, fun i hi j hj => ?_⟩
    obtain ⟨x, hx, hr⟩ := h3 i hi j hj
    obtain ⟨v, hv⟩ := hf i j
    rw [hv] at hr ⊢
    exact ⟨x, hx, by simpa [DRep] using hr⟩
  | .mapi k es, _, h => by simp only [ORep, shftO] at h ⊢; simp only [cxK, cxJ, at_J]; exact h
  | .mapb es, _, h => by simp only [ORep, shftO] at h ⊢; simp only [cxK, cxJ, at_J]; exact h
  | .maps es, hf, _ => hf.elim
end

theorem join_flat {cx : Cx} {h h' : SH} {w w' : World} {d : Nat → Prop} (hg : Gam cx h w) {p : Nat → Bool} {cxs : Cx} (gr : Grow p (cxL w d) w cxs w') (hG : Gam cxs h' w') (hfl : FlatH h') :
    Gam (cxK cx cxs) (h ++ shftH h.length h') w' ∧ Grow0 cx w (cxK cx cxs) w' := by
  have hsame : ∀ b, b < w.heap.size → w'.heap[b]? = w.heap[b]? := fun b hb => gr.same b (cxL_all hb)
  have hn := hg.n
  have hns := hG.n
  have gr' : Grow0 cx w (cxK cx cxs) w' := ⟨fun b hb => hb, fun b hb => hsame b (hg.fzlt b hb), gr.size, fun l hl _ => by
    refine ⟨by simp only [cxK, cxJ]; omega, ?_, ?_, ?_, ?_, ?_⟩ <;> simp [cxK, cxJ, hl], rfl, gr.io⟩
  have hget' : ∀ l, hget (h ++ shftH h.length h') l = if l < cx.n then hget h l else shftO cx.n (hget h' (l - cx.n)) := fun l => by
    rw [hget_app, shftH_get, ← hn]
  have lo : ∀ l, l < cx.n → liv (cxK cx cxs) (h ++ shftH h.length h') l → liv cx h l := fun l hl hv => by
    unfold liv at hv ⊢
    rw [hget', if_pos hl] at hv
    simpa [cxK, cxJ, hl] using hv
  have hi : ∀ l, ¬ l < cx.n → liv (cxK cx cxs) (h ++ shftH h.length h') l → liv cxs h' (l - cx.n) := fun l hl hv => by
    unfold liv at hv ⊢
    rw [hget', if_neg hl] at hv
    cases e : hget h' (l - cx.n) with
    | dead => rw [e] at hv; exact hv
    | rowi t k xs => rw [e] at hv; simpa [cxK, cxJ, hl, shftO] using hv
    | row t sz n f => rw [e] at hv; simpa [cxK, cxJ, hl, shftO] using hv
    | _ => trivial
  have new : ∀ l, liv cxs h' l → w.heap.size ≤ cxs.th l := fun l hl => by
    rcases Nat.lt_or_ge (cxs.th l) w.heap.size with h1 | h1
    · exact absurd (gr.hd _ (cxL_all h1)) (hG.own l hl)
    · exact h1
  refine ⟨⟨by simp [cxK, cxJ, shftH_length, hn, hns], fun l => ?_, fun l hl => ?_, fun l hl hhd => ?_, fun l m hl hm e => ?_, fun b hb => Nat.lt_of_lt_of_le (hg.fzlt b hb) gr.size, fun b hb hf => hg.dj b hb hf⟩, gr'⟩
  · rw [hget']
    split
    · rename_i hl
      exact ORep.keep (h := h) gr' hl _ rfl (fun hv => hsame _ (hg.lt l hv)) (hg.obj l)
    · rename_i hl
      have := ORep.flat (cx := cx) (l := l - cx.n) _ (hfl.get _) (hG.obj (l - cx.n))
      rwa [show cx.n + (l - cx.n) = l by omega] at this
  · by_cases h1 : l < cx.n
    · have := hg.lt l (lo l h1 hl)
      simp only [cxK, cxJ, h1, if_true]; exact Nat.lt_of_lt_of_le this gr.size
    · simp only [cxK, cxJ, h1, if_false]; exact hG.lt _ (hi l h1 hl)
  · by_cases h1 : l < cx.n
    · have h2 := lo l h1 hl
      simp only [cxK, cxJ, Cx.hd, h1, if_true] at hhd
      exact hg.own l h2 hhd
    · have h2 := hi l h1 hl
      have hge := new _ h2
      simp only [cxK, cxJ, Cx.hd, h1, if_false] at hhd
      have := hg.fzlt _ hhd
      omega
  · by_cases h1 : l < cx.n <;> by_cases h2 : m < cx.n
    · simp only [cxK, cxJ, h1, h2, if_true] at e
      exact hg.inj l m (lo l h1 hl) (lo m h2 hm) e
    · simp only [cxK, cxJ, h1, h2, if_true, if_false] at e
      have a := hg.lt l (lo l h1 hl)
      have b := new _ (hi m h2 hm)
      omega
    · simp only [cxK, cxJ, h1, h2, if_true, if_false] at e
      have a := hg.lt m (lo m h2 hm)
      have b := new _ (hi l h1 hl)
      omega
    · simp only [cxK, cxJ, h1, h2, if_false] at e
      have := hG.inj _ _ (hi l h1 hl) (hi m h2 hm) e
      omega

/-! ### what is lent -/
theorem asK_enc {cx cx' : Cx} {w : World} : ∀ {ks : List IntKind} {c : List SV} {l : List Int} {vs : List Value}, asK ks c = some l → SRepL cx w c vs → SRepL cx' w (encK ks l) vs
  | [], [], l, vs, h, hr => by
    simp only [asK, Option.some.injEq] at h; subst h
    match vs, hr with
    | [], _ => simp [encK, SRepL]
    | _ :: _, hr => simp [SRepL] at hr
  | k :: ks, .d (.v (.int k' x)) :: r, l, vs, h, hr => by
    simp only [asK] at h
    have hA := cond_some h
    clear h
    have hk := kEq_eq hA.1
    have h := hA.2
    clear hA
    subst hk
    split at h
    · rename_i l' hl
      simp only [Option.some.injEq] at h; subst h
      match vs, hr with
      | v :: vs, hr =>
        simp only [SRepL, SRep, encK] at hr ⊢
        exact ⟨hr.1, asK_enc hl hr.2⟩
      | [], hr => simp [SRepL] at hr
    · simp at h
  | [], _ :: _, l, vs, h, _ => by simp [asK] at h
  | _ :: _, [], l, vs, h, _ => by simp [asK] at h
  | k :: ks, .d (.v (.bool _)) :: r, l, vs, h, _ | k :: ks, .d (.v (.string _)) :: r, l, vs, h, _ | k :: ks, .d (.v (.pointer _)) :: r, l, vs, h, _ | k :: ks, .d (.v (.slice _ _ _)) :: r, l, vs, h, _
  | k :: ks, .d (.v (.agg _)) :: r, l, vs, h, _ | k :: ks, .d (.v (.tuple _)) :: r, l, vs, h, _ | k :: ks, .d (.v (.map _)) :: r, l, vs, h, _ | k :: ks, .d (.v (.func _ _ _)) :: r, l, vs, h, _ | k :: ks, .d (.v .nilFunc) :: r, l, vs, h, _ => by simp [asK] at h
  | k :: ks, .d (.ints _ _) :: r, l, vs, h, _ | k :: ks, .d (.sl _ _ _) :: r, l, vs, h, _ | k :: ks, .ptr _ _ :: r, l, vs, h, _ | k :: ks, .pe _ _ _ :: r, l, vs, h, _ | k :: ks, .rp _ _ _ :: r, l, vs, h, _ | k :: ks, .own _ :: r, l, vs, h, _
  | k :: ks, .cs _ _ _ _ _ :: r, l, vs, h, _ | k :: ks, .mp _ :: r, l, vs, h, _ | k :: ks, .fn _ _ _ :: r, l, vs, h, _ | k :: ks, .agg _ :: r, l, vs, h, _ | k :: ks, .tup _ :: r, l, vs, h, _ | k :: ks, .top :: r, l, vs, h, _ => by simp [asK] at h

abbrev cxA (w : World) : Cx := cxL w (fun _ => True)

theorem lendA_ok {cx : Cx} {h : SH} {w : World} (hg : Gam cx h w) {t : AT} {x : SV} {xs : List Int} {u : Value} (hl : lendA h t x = some xs) (hx : SRep cx w x u) : SRep (cxA w) w (encA t xs) u := by
  unfold lendA at hl
  split at hl
  · rename_i k k' x'
    have hA := cond_some hl
    clear hl
    have hk := kEq_eq hA.1
    have hl := hA.2
    clear hA
    subst hk
    simp only [Option.some.injEq] at hl; subst hl
    simp only [SRep, encA, List.headD_cons] at hx ⊢
    exact hx
  · rename_i x'
    simp only [Option.some.injEq] at hl; subst hl
    simp only [SRep, encA, List.headD_cons] at hx ⊢
    have : ((bif x' then (1 : Int) else 0) == 1) = x' := by cases x' <;> rfl
    rw [this]; exact hx
  · rename_i ks c
    simp only [SRep, encA] at hx ⊢
    obtain ⟨c', e, hc⟩ := hx
    exact ⟨c', e, asK_enc hl hc⟩
  · rename_i k
    have hA := cond_some hl
    clear hl
    obtain ⟨bb, cc, e, hle, hc⟩ := src_ad hg hx hA.2 hA.1
    simp only [SRep, encA, DRep]
    refine ⟨bb, cc, e, hle, fun hn => ?_⟩
    obtain ⟨b, o, e1, h1, h2⟩ := hc hn
    exact ⟨b, o, e1, ⟨h1, trivial⟩, h2⟩
  · cases hl

theorem lendAs_ok {cx : Cx} {h : SH} {w : World} (hg : Gam cx h w) : ∀ {ts : List AT} {args : List SV} {l : List (List Int)} {vs : List Value}, lendAs h ts args = some l → SRepL cx w args vs → SRepL (cxA w) w (encAs ts l) vs
  | [], [], l, vs, hl, hr => by
    simp only [lendAs, Option.some.injEq] at hl; subst hl
    match vs, hr with
    | [], _ => simp [encAs, SRepL]
    | _ :: _, hr => simp [SRepL] at hr
  | t :: ts, x :: r, l, vs, hl, hr => by
    simp only [lendAs] at hl
    split at hl
    · rename_i a l' h1 h2
      simp only [Option.some.injEq] at hl; subst hl
      match vs, hr with
      | v :: vs, hr =>
        simp only [SRepL, encAs] at hr ⊢
        exact ⟨lendA_ok hg h1 hr.1, lendAs_ok hg h2 hr.2⟩
      | [], hr => simp [SRepL] at hr
    · cases hl
  | [], _ :: _, l, vs, hl, _ => by simp [lendAs] at hl
  | _ :: _, [], l, vs, hl, _ => by simp [lendAs] at hl

theorem con_par {ts : List AT} {F : List (List Int) → Option (Bool × SV × SH)} {Ω Ω' : Type} : SpecPar (conSpec ts F (Ω := Ω)) (conSpec ts F (Ω := Ω')) := by
  intro args h k out hs
  unfold conSpec at hs ⊢
  split at hs
  · rename_i l hl
    split at hs
    · rename_i g r hr hF
      cases g with
      | true => exact ⟨_, _, _, _, hs, fun k' => rfl⟩
      | false => simp [br] at hs
    · cases hs
  · cases hs

/-- The lengths that the arguments have. -/
def lenA : AT → Nat → Prop
  | .i _, n => n = 1
  | .b, n => n = 1
  | .g ks, n => n = ks.length
  | .s _, _ => True

theorem asK_len : ∀ {ks : List IntKind} {c : List SV} {l : List Int}, asK ks c = some l → l.length = ks.length
  | [], c, l, h => by
    cases c with
    | nil => simp only [asK, Option.some.injEq] at h; subst h; rfl
    | cons _ _ => simp [asK] at h
  | k :: ks, c, l, h => by
    unfold asK at h
    split at h
    · rename_i e1; cases e1
    · rename_i k1 ks1 k' x r e1
      cases e1
      have hA := cond_some h
      clear h
      have h := hA.2
      clear hA
      split at h
      · rename_i l' hl
        simp only [Option.some.injEq] at h; subst h
        simp [asK_len hl]
      · cases h
    · cases h

theorem lendA_len {h : SH} {t : AT} {x : SV} {xs : List Int} (hl : lendA h t x = some xs) : lenA t xs.length := by
  unfold lendA at hl
  split at hl
  · have hA := cond_some hl
    clear hl
    have hl := hA.2
    simp only [Option.some.injEq] at hl; subst hl
    simp [lenA]
  · simp only [Option.some.injEq] at hl; subst hl
    simp [lenA]
  · simp only [lenA]; exact asK_len hl
  · trivial
  · cases hl

def lenAs : List AT → List (List Int) → Prop
  | [], l => l = []
  | t :: ts, l => ∃ a r, l = a :: r ∧ lenA t a.length ∧ lenAs ts r

theorem lendAs_len {h : SH} : ∀ {ts : List AT} {args : List SV} {l : List (List Int)}, lendAs h ts args = some l → lenAs ts l
  | [], [], l, hl => by simp only [lendAs, Option.some.injEq] at hl; subst hl; rfl
  | t :: ts, x :: r, l, hl => by
    simp only [lendAs] at hl
    split at hl
    · rename_i a l' h1 h2
      simp only [Option.some.injEq] at hl; subst hl
      exact ⟨_, _, rfl, lendA_len h1, lendAs_len h2⟩
    · cases hl
  | [], _ :: _, l, hl => by simp [lendAs] at hl
  | _ :: _, [], l, hl => by simp [lendAs] at hl

/-- A contract is met: the run on what is lent answers so, whatever follows. -/
theorem conGood {P : Program} {g : Nat} {fn : Func} (hf : P.funcs[g]? = some fn) (hname : (fn.name == "runtime.NumGoroutine") = false) {C : CF} (hC : coF P fn = some C) {A : Ann} {e : {Ω : Type} → Env Ω} (he : GoodE P e) (hmix : P.follows .mixedOrders = true)
    {ts : List AT} {F : List (List Int) → Option (Bool × SV × SH)}
    (hrun : ∀ l r hr, lenAs ts l → F l = some (true, r, hr) → Flat r ∧ FlatH hr ∧ ∃ H, trim 0 r [] H = hr ∧ sxFn (e (Ω := SV × SH)) A C (encAs ts l) [] (fun r h => some (r, h)) = some (r, H)) :
    Good1 P g (fun {Ω} => conSpec ts F (Ω := Ω)) := by
  have hbody : ∃ c, fn.body = some c := by
    unfold coF at hC
    split at hC
    · rename_i c hb; exact ⟨c, hb⟩
    · cases hC
  obtain ⟨c, hb⟩ := hbody
  have henter : ∀ (args : Array Value) (w : World), (callFunc g args).run P w = .ok (.enter g args) w := fun args w => by
    have h1 : fn.name ≠ "runtime.NumGoroutine" := by simpa using hname
    simp [callFunc, hf, h1, hb]
  refine ⟨fun Ω => ⟨henter, fun args h kk out hs => ?_⟩, fun Ω Ω' => con_par⟩
  unfold conSpec at hs
  split at hs
  · rename_i l hl
    split at hs
    · rename_i g r hr hF
      cases g with
      | false => simp [br] at hs
      | true =>
      simp only [br, cond_true] at hs
      obtain ⟨f1, f2, H, htr, hrun⟩ := hrun l r hr (lendAs_len hl) hF
      refine ⟨_, [], [], _, hs, ⟨by simp, fun l hl _ => by rw [hget_app, if_pos hl]⟩, fun cx w vals hg ha => ?_⟩
      refine (fn_calls (he.ok _) hmix hf hC hrun (cxA w) w vals (gamL w _) (lendAs_ok hg hl ha)).mono fun e w' ⟨v, cxq, e1, grq, hrq, hGq⟩ => ?_
      obtain ⟨cxs, hG, hr', hgrow⟩ := trim_sound (n0 := 0) (m := []) hGq hrq
      rw [htr] at hG
      have gr := hgrow (Nat.le_refl _) grq
      obtain ⟨k1, k2⟩ := join_flat hg gr hG f2
      have nm : (fun l => nmem l []) = fun _ => false := funext fun l => by simp [nmem]
      rw [nm]
      exact ⟨v, _, e1, k2, by rw [← hg.n]; exact SRep.flat _ _ f1 hr', k1⟩
    · cases hs
  · cases hs

 mutual
theorem noloc_locs : ∀ x : SV, ment (fun _ => true) x = false → locsD x = []
  | .d _, _ | .rp _ _ _, _ | .top, _ => by simp [locsD]
  | .ptr _ _, h | .pe _ _ _, h | .own _, h | .cs _ _ _ _ _, h | .mp _, h => by simp [ment] at h
  | .fn _ a b, h => by
    simp only [ment, Bool.or_eq_false_iff] at h
    simp [locsD, noloc_locsL a h.1, noloc_locsL b h.2]
  | .agg c, h => by simp only [ment] at h; simp [locsD, noloc_locsL c h]
  | .tup c, h => by simp only [ment] at h; simp [locsD, noloc_locsL c h]
theorem noloc_locsL : ∀ c : List SV, mentL (fun _ => true) c = false → locsDL c = []
  | [], _ => rfl
  | x :: r, h => by
    simp only [mentL, Bool.or_eq_false_iff] at h
    simp [locsDL, noloc_locs x h.1, noloc_locsL r h.2]
end

/-- A result that holds no loc: nothing is left. -/
theorem trim_none {r : SV} (hr : ment (fun _ => true) r = false) (H : SH) : trim 0 r [] H = [] := by
  unfold trim
  dsimp only
  have h1 : clos H 100000 (locsD r ++ []) [] = [] := by rw [noloc_locs r hr]; simp [clos]
  rw [h1]
  have h2 : ment (Nat.ble (max 0 (topOf []))) r = false := ment_sub (fun _ _ => rfl) r hr
  rw [h2]
  simp [topOf, mentH]
end Go.Sx
