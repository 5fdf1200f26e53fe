/- Contracts: a function of integers, aggregates of integers and slices of integers, known by what it answers. -/
import Derived.Test.YtibleafpbfbccaaSxFrame
import Derived.IntWalk
set_option linter.all false
set_option linter.unusedVariables false
set_option linter.unusedSimpArgs false
set_option linter.unnecessarySimpa false
namespace Go.Sx

abbrev I (x : Int) : SV := .d (.v (.int .i64 x))
abbrev U (x : Int) : SV := .d (.v (.int .u64 x))
abbrev B (x : Bool) : SV := .d (.v (.bool x))

/-- The arguments' kinds: an integer, a boolean, a struct of integers, a slice of integers. -/
inductive AT where
  | i (k : IntKind)
  | b
  | g (ks : List IntKind)
  | s (k : IntKind)

def asK : List IntKind → List SV → Option (List Int)
  | [], [] => some []
  | k :: ks, .d (.v (.int k' x)) :: r => bif kEq k k' then (match asK ks r with | some l => some (x :: l) | none => none) else none
  | _, _ => none

def encK : List IntKind → List Int → List SV
  | k :: ks, x :: r => .d (.v (.int k x)) :: encK ks r
  | _, _ => []

def lendA (h : SH) : AT → SV → Option (List Int)
  | .i k, .d (.v (.int k' x)) => bif kEq k k' then some [x] else none
  | .b, .d (.v (.bool x)) => some [bif x then 1 else 0]
  | .g ks, .agg c => asK ks c
  | .s k, x => bif capOk x then intsOf h k x else none
  | _, _ => none

def encA : AT → List Int → SV
  | .i k, l => .d (.v (.int k (l.headD 0)))
  | .b, l => .d (.v (.bool (l.headD 0 == 1)))
  | .g ks, l => .agg (encK ks l)
  | .s k, l => .d (.ints k l)

def lendAs (h : SH) : List AT → List SV → Option (List (List Int))
  | [], [] => some []
  | t :: ts, x :: r => match lendA h t x, lendAs h ts r with
    | some a, some l => some (a :: l)
    | _, _ => none
  | _, _ => none

def encAs : List AT → List (List Int) → List SV
  | t :: ts, x :: r => encA t x :: encAs ts r
  | _, _ => []

/-- A function by its answer: the result, and the heap it leaves, its locs counted from 0. -/
def conSpec (ts : List AT) (F : List (List Int) → Option (Bool × SV × SH)) {Ω : Type} : Spec Ω := fun args h k =>
  match lendAs h ts args with
  | some l => match F l with
    | some (g, r, hr) => br g (k (shft h.length r) [] [] (h ++ shftH h.length hr)) none
    | none => none
  | none => none

 mutual
/-- Says nothing of data. -/
def Flat : SV → Prop
  | .d (.v _) => True
  | .d _ => False
  | .rp _ _ _ => False
  | .md _ _ => False
  | .rc _ _ => False
  | .fn _ a b => FlatL a ∧ FlatL b
  | .agg c => FlatL c
  | .tup c => FlatL c
  | _ => True
def FlatL : List SV → Prop
  | [] => True
  | x :: r => Flat x ∧ FlatL r
end

def FlatO : SO → Prop
  | .cells _ c => FlatL c
  | .row _ _ _ f => ∀ i j, ∃ v, f i j = .v v
  | .maps _ => False
  | _ => True

def FlatH : SH → Prop
  | [] => True
  | o :: r => FlatO o ∧ FlatH r

theorem FlatH.get : ∀ {h : SH}, FlatH h → ∀ l, FlatO (hget h l)
  | [], _, l => by simp [hget, FlatO]
  | o :: r, hf, 0 => by simpa [hget] using hf.1
  | o :: r, hf, l + 1 => by simpa [hget] using FlatH.get hf.2 l

/-- Two contexts side by side; nothing new is frozen. -/
def cxK (cx cxs : Cx) : Cx := { cxJ cx cxs with fz := cx.fz }

section
variable {cx cxs : Cx} {w : World}
 mutual
theorem SRep.flat : ∀ (x : SV) (u : Value), Flat x → SRep cxs w x u → SRep (cxK cx cxs) w (shft cx.n x) u
  | .d (.v x), u, _, h => by simp only [SRep, Sx.shft, DRep] at h ⊢; exact h
  | .d (.ints _ _), u, hf, _ => by simp [Flat] at hf
  | .d (.sl _ _ _), u, hf, _ => by simp [Flat] at hf
  | .ptr l o, u, _, h => by
      simp only [SRep, Sx.shft] at h ⊢
      simp only [cxK, cxJ, at_J]; exact ⟨by omega, h.2⟩
  | .pe l i o, u, _, h => by
      simp only [SRep, Sx.shft] at h ⊢
      simp only [cxK, cxJ, at_J]; exact ⟨by omega, h.2⟩
  | .rp sz f o, u, hf, _ => by simp [Flat] at hf
  | .md _ _, u, hf, _ => by simp [Flat] at hf
  | .rc _ _, u, hf, _ => by simp [Flat] at hf
  | .own l, u, _, h => by
      simp only [SRep, Sx.shft] at h ⊢
      simp only [cxK, cxJ, at_J]; exact ⟨by omega, h.2⟩
  | .cs l o sz m c, u, _, h => by
      simp only [SRep, Sx.shft] at h ⊢
      simp only [cxK, cxJ, at_J]; exact ⟨by omega, h.2⟩
  | .mp l, u, _, h => by
      simp only [SRep, Sx.shft] at h ⊢
      simp only [cxK, cxJ, at_J]; exact ⟨by omega, h.2⟩
  | .fn g a b, u, hf, h => by
      simp only [SRep, Sx.shft, Flat] at h hf ⊢
      obtain ⟨a', b', e, ha, hb⟩ := h
      exact ⟨a', b', e, SRepL.flat a a' hf.1 ha, SRepL.flat b b' hf.2 hb⟩
  | .agg c, u, hf, h => by
      simp only [SRep, Sx.shft, Flat] at h hf ⊢
      obtain ⟨c', e, hc⟩ := h
      exact ⟨c', e, SRepL.flat c c' hf hc⟩
  | .tup c, u, hf, h => by
      simp only [SRep, Sx.shft, Flat] at h hf ⊢
      obtain ⟨c', e, hc⟩ := h
      exact ⟨c', e, SRepL.flat c c' hf hc⟩
  | .top, u, _, _ => by simp only [SRep, Sx.shft]
theorem SRepL.flat : ∀ (c : List SV) (c' : List Value), FlatL c → SRepL cxs w c c' → SRepL (cxK cx cxs) w (shftL cx.n c) c'
  | [], [], _, _ => by simp only [SRepL, Sx.shftL]
  | x :: r, v :: vs, hf, h => by
      simp only [SRepL, Sx.shftL, FlatL] at h hf ⊢
      exact ⟨SRep.flat x v hf.1 h.1, SRepL.flat r vs hf.2 h.2⟩
  | [], _ :: _, _, h => by simp [SRepL] at h
  | _ :: _, [], _, h => by simp [SRepL] at h
end

theorem ORep.flat {l : Nat} : ∀ (o : SO), FlatO o → ORep cxs w l o → ORep (cxK cx cxs) w (cx.n + l) (shftO cx.n o)
  | .dead, _, _ => trivial
  | .cells t c, hf, h => by
    obtain ⟨t', c', h1, h2⟩ := h
    exact ⟨t', c', by simp only [cxK, cxJ, at_J]; exact h1, SRepL.flat c c' hf h2⟩
  | .rowi t k xs, _, h => by
    simp only [ORep, shftO] at h ⊢
    simp only [cxK, cxJ, at_J]; exact h
  | .row t sz n f, hf, h => by
    simp only [ORep, shftO] at h ⊢
    simp only [cxK, cxJ, at_J]
    refine ⟨h.1, h.2.1, h.2.2.1, h.2.2.2.1, fun hn => ?_⟩
    obtain ⟨t', c', h1, h2, h3⟩ := h.2.2.2.2 hn
    refine ⟨t', c', h1, h2, fun i hi j hj => ?_⟩
    obtain ⟨x, hx, hr⟩ := h3 i hi j hj
    obtain ⟨v, hv⟩ := hf i j
    rw [hv] at hr ⊢
    exact ⟨x, hx, by simpa [DRep] using hr⟩
  | .mapi k es, _, h => by simp only [ORep, shftO] at h ⊢; simp only [cxK, cxJ, at_J]; exact h
  | .mapb es, _, h => by simp only [ORep, shftO] at h ⊢; simp only [cxK, cxJ, at_J]; exact h
  | .maps es, hf, _ => hf.elim
end

theorem join_flat {cx : Cx} {h h' : SH} {w w' : World} {d : Nat → Prop} (hg : Gam cx h w) {p : Nat → Bool} {cxs : Cx} (gr : Grow p (cxL w d) w cxs w') (hG : Gam cxs h' w') (hfl : FlatH h') :
    Gam (cxK cx cxs) (h ++ shftH h.length h') w' ∧ Grow0 cx w (cxK cx cxs) w' := by
  have hsame : ∀ b, b < w.heap.size → w'.heap[b]? = w.heap[b]? := fun b hb => gr.same b (cxL_all hb)
  have hn := hg.n
  have hns := hG.n
  have gr' : Grow0 cx w (cxK cx cxs) w' := ⟨fun b hb => hb, fun b hb => hsame b (hg.fzlt b hb), gr.size, fun l hl _ => by
    refine ⟨by simp only [cxK, cxJ]; omega, ?_, ?_, ?_, ?_, ?_⟩ <;> simp [cxK, cxJ, hl], rfl, gr.io⟩
  have hget' : ∀ l, hget (h ++ shftH h.length h') l = if l < cx.n then hget h l else shftO cx.n (hget h' (l - cx.n)) := fun l => by
    rw [hget_app, shftH_get, ← hn]
  have lo : ∀ l, l < cx.n → liv (cxK cx cxs) (h ++ shftH h.length h') l → liv cx h l := fun l hl hv => by
    unfold liv at hv ⊢
    rw [hget', if_pos hl] at hv
    simpa [cxK, cxJ, hl] using hv
  have hi : ∀ l, ¬ l < cx.n → liv (cxK cx cxs) (h ++ shftH h.length h') l → liv cxs h' (l - cx.n) := fun l hl hv => by
    unfold liv at hv ⊢
    rw [hget', if_neg hl] at hv
    cases e : hget h' (l - cx.n) with
    | dead => rw [e] at hv; exact hv
    | rowi t k xs => rw [e] at hv; simpa [cxK, cxJ, hl, shftO] using hv
    | row t sz n f => rw [e] at hv; simpa [cxK, cxJ, hl, shftO] using hv
    | _ => trivial
  have new : ∀ l, liv cxs h' l → w.heap.size ≤ cxs.th l := fun l hl => by
    rcases Nat.lt_or_ge (cxs.th l) w.heap.size with h1 | h1
    · exact absurd (gr.hd _ (cxL_all h1)) (hG.own l hl)
    · exact h1
  refine ⟨⟨by simp [cxK, cxJ, shftH_length, hn, hns], fun l => ?_, fun l hl => ?_, fun l hl hhd => ?_, fun l m hl hm e => ?_, fun b hb => Nat.lt_of_lt_of_le (hg.fzlt b hb) gr.size, fun b hb hf => hg.dj b hb hf⟩, gr'⟩
  · rw [hget']
    split
    · rename_i hl
      exact ORep.keep (h := h) gr' hl _ rfl (fun hv => hsame _ (hg.lt l hv)) (hg.obj l)
    · rename_i hl
      have := ORep.flat (cx := cx) (l := l - cx.n) _ (hfl.get _) (hG.obj (l - cx.n))
      rwa [show cx.n + (l - cx.n) = l by omega] at this
  · by_cases h1 : l < cx.n
    · have := hg.lt l (lo l h1 hl)
      simp only [cxK, cxJ, h1, if_true]; exact Nat.lt_of_lt_of_le this gr.size
    · simp only [cxK, cxJ, h1, if_false]; exact hG.lt _ (hi l h1 hl)
  · by_cases h1 : l < cx.n
    · have h2 := lo l h1 hl
      simp only [cxK, cxJ, Cx.hd, h1, if_true] at hhd
      exact hg.own l h2 hhd
    · have h2 := hi l h1 hl
      have hge := new _ h2
      simp only [cxK, cxJ, Cx.hd, h1, if_false] at hhd
      have := hg.fzlt _ hhd
      omega
  · by_cases h1 : l < cx.n <;> by_cases h2 : m < cx.n
    · simp only [cxK, cxJ, h1, h2, if_true] at e
      exact hg.inj l m (lo l h1 hl) (lo m h2 hm) e
    · simp only [cxK, cxJ, h1, h2, if_true, if_false] at e
      have a := hg.lt l (lo l h1 hl)
      have b := new _ (hi m h2 hm)
      omega
    · simp only [cxK, cxJ, h1, h2, if_true, if_false] at e
      have a := hg.lt m (lo m h2 hm)
      have b := new _ (hi l h1 hl)
      omega
    · simp only [cxK, cxJ, h1, h2, if_false] at e
      have := hG.inj _ _ (hi l h1 hl) (hi m h2 hm) e
      omega

/-! ### what is lent -/
theorem asK_enc {cx cx' : Cx} {w : World} : ∀ {ks : List IntKind} {c : List SV} {l : List Int} {vs : List Value}, asK ks c = some l → SRepL cx w c vs → SRepL cx' w (encK ks l) vs
  | [], [], l, vs, h, hr => by
    simp only [asK, Option.some.injEq] at h; subst h
    match vs, hr with
    | [], _ => simp [encK, SRepL]
    | _ :: _, hr => simp [SRepL] at hr
  | k :: ks, .d (.v (.int k' x)) :: r, l, vs, h, hr => by
    simp only [asK] at h
    have hA := cond_some h
    clear h
    have hk := kEq_eq hA.1
    have h := hA.2
    clear hA
    subst hk
    split at h
    · rename_i l' hl
      simp only [Option.some.injEq] at h; subst h
      match vs, hr with
      | v :: vs, hr =>
        simp only [SRepL, SRep, encK] at hr ⊢
        exact ⟨hr.1, asK_enc hl hr.2⟩
      | [], hr => simp [SRepL] at hr
    · simp at h
  | [], _ :: _, l, vs, h, _ => by simp [asK] at h
  | _ :: _, [], l, vs, h, _ => by simp [asK] at h
  | k :: ks, .d (.v (.bool _)) :: r, l, vs, h, _ | k :: ks, .d (.v (.string _)) :: r, l, vs, h, _ | k :: ks, .d (.v (.pointer _)) :: r, l, vs, h, _ | k :: ks, .d (.v (.slice _ _ _)) :: r, l, vs, h, _
  | k :: ks, .d (.v (.agg _)) :: r, l, vs, h, _ | k :: ks, .d (.v (.tuple _)) :: r, l, vs, h, _ | k :: ks, .d (.v (.map _)) :: r, l, vs, h, _ | k :: ks, .d (.v (.func _ _ _)) :: r, l, vs, h, _ | k :: ks, .d (.v .nilFunc) :: r, l, vs, h, _ => by simp [asK] at h
  | k :: ks, .d (.ints _ _) :: r, l, vs, h, _ | k :: ks, .d (.sl _ _ _) :: r, l, vs, h, _ | k :: ks, .ptr _ _ :: r, l, vs, h, _ | k :: ks, .pe _ _ _ :: r, l, vs, h, _ | k :: ks, .rp _ _ _ :: r, l, vs, h, _ | k :: ks, .own _ :: r, l, vs, h, _
  | k :: ks, .cs _ _ _ _ _ :: r, l, vs, h, _ | k :: ks, .mp _ :: r, l, vs, h, _ | k :: ks, .md _ _ :: r, l, vs, h, _ | k :: ks, .rc _ _ :: r, l, vs, h, _ | k :: ks, .fn _ _ _ :: r, l, vs, h, _ | k :: ks, .agg _ :: r, l, vs, h, _ | k :: ks, .tup _ :: r, l, vs, h, _ | k :: ks, .top :: r, l, vs, h, _ => by simp [asK] at h

abbrev cxA (w : World) : Cx := cxL w (fun _ => True)

theorem lendA_ok {cx : Cx} {h : SH} {w : World} (hg : Gam cx h w) {t : AT} {x : SV} {xs : List Int} {u : Value} (hl : lendA h t x = some xs) (hx : SRep cx w x u) : SRep (cxA w) w (encA t xs) u := by
  unfold lendA at hl
  split at hl
  · rename_i k k' x'
    have hA := cond_some hl
    clear hl
    have hk := kEq_eq hA.1
    have hl := hA.2
    clear hA
    subst hk
    simp only [Option.some.injEq] at hl; subst hl
    simp only [SRep, encA, List.headD_cons] at hx ⊢
    exact hx
  · rename_i x'
    simp only [Option.some.injEq] at hl; subst hl
    simp only [SRep, encA, List.headD_cons] at hx ⊢
    have : ((bif x' then (1 : Int) else 0) == 1) = x' := by cases x' <;> rfl
    rw [this]; exact hx
  · rename_i ks c
    simp only [SRep, encA] at hx ⊢
    obtain ⟨c', e, hc⟩ := hx
    exact ⟨c', e, asK_enc hl hc⟩
  · rename_i k
    have hA := cond_some hl
    clear hl
    obtain ⟨bb, cc, e, hle, hc⟩ := src_ad hg hx hA.2 hA.1
    simp only [SRep, encA, DRep]
    refine ⟨bb, cc, e, hle, fun hn => ?_⟩
    obtain ⟨b, o, e1, h1, h2⟩ := hc hn
    exact ⟨b, o, e1, ⟨h1, trivial⟩, h2⟩
  · cases hl

theorem lendAs_ok {cx : Cx} {h : SH} {w : World} (hg : Gam cx h w) : ∀ {ts : List AT} {args : List SV} {l : List (List Int)} {vs : List Value}, lendAs h ts args = some l → SRepL cx w args vs → SRepL (cxA w) w (encAs ts l) vs
  | [], [], l, vs, hl, hr => by
    simp only [lendAs, Option.some.injEq] at hl; subst hl
    match vs, hr with
    | [], _ => simp [encAs, SRepL]
    | _ :: _, hr => simp [SRepL] at hr
  | t :: ts, x :: r, l, vs, hl, hr => by
    simp only [lendAs] at hl
    split at hl
    · rename_i a l' h1 h2
      simp only [Option.some.injEq] at hl; subst hl
      match vs, hr with
      | v :: vs, hr =>
        simp only [SRepL, encAs] at hr ⊢
        exact ⟨lendA_ok hg h1 hr.1, lendAs_ok hg h2 hr.2⟩
      | [], hr => simp [SRepL] at hr
    · cases hl
  | [], _ :: _, l, vs, hl, _ => by simp [lendAs] at hl
  | _ :: _, [], l, vs, hl, _ => by simp [lendAs] at hl

theorem con_par {ts : List AT} {F : List (List Int) → Option (Bool × SV × SH)} {Ω Ω' : Type} : SpecPar (conSpec ts F (Ω := Ω)) (conSpec ts F (Ω := Ω')) := by
  intro args h k out hs
  unfold conSpec at hs ⊢
  split at hs
  · rename_i l hl
    split at hs
    · rename_i g r hr hF
      cases g with
      | true => exact ⟨_, _, _, _, hs, fun k' => rfl⟩
      | false => simp [br] at hs
    · cases hs
  · cases hs

/-- The lengths that the arguments have. -/
def lenA : AT → Nat → Prop
  | .i _, n => n = 1
  | .b, n => n = 1
  | .g ks, n => n = ks.length
  | .s _, _ => True

theorem asK_len : ∀ {ks : List IntKind} {c : List SV} {l : List Int}, asK ks c = some l → l.length = ks.length
  | [], c, l, h => by
    cases c with
    | nil => simp only [asK, Option.some.injEq] at h; subst h; rfl
    | cons _ _ => simp [asK] at h
  | k :: ks, c, l, h => by
    unfold asK at h
    split at h
    · rename_i e1; cases e1
    · rename_i k1 ks1 k' x r e1
      cases e1
      have hA := cond_some h
      clear h
      have h := hA.2
      clear hA
      split at h
      · rename_i l' hl
        simp only [Option.some.injEq] at h; subst h
        simp [asK_len hl]
      · cases h
    · cases h

theorem lendA_len {h : SH} {t : AT} {x : SV} {xs : List Int} (hl : lendA h t x = some xs) : lenA t xs.length := by
  unfold lendA at hl
  split at hl
  · have hA := cond_some hl
    clear hl
    have hl := hA.2
    simp only [Option.some.injEq] at hl; subst hl
    simp [lenA]
  · simp only [Option.some.injEq] at hl; subst hl
    simp [lenA]
  · simp only [lenA]; exact asK_len hl
  · trivial
  · cases hl

def lenAs : List AT → List (List Int) → Prop
  | [], l => l = []
  | t :: ts, l => ∃ a r, l = a :: r ∧ lenA t a.length ∧ lenAs ts r

theorem lendAs_len {h : SH} : ∀ {ts : List AT} {args : List SV} {l : List (List Int)}, lendAs h ts args = some l → lenAs ts l
  | [], [], l, hl => by simp only [lendAs, Option.some.injEq] at hl; subst hl; rfl
  | t :: ts, x :: r, l, hl => by
    simp only [lendAs] at hl
    split at hl
    · rename_i a l' h1 h2
      simp only [Option.some.injEq] at hl; subst hl
      exact ⟨_, _, rfl, lendA_len h1, lendAs_len h2⟩
    · cases hl
  | [], _ :: _, l, hl => by simp [lendAs] at hl
  | _ :: _, [], l, hl => by simp [lendAs] at hl

/-- A contract is met: the run on what is lent answers so, whatever follows. -/
theorem conGood {P : Program} {g : Nat} {fn : Func} (hf : P.funcs[g]? = some fn) (hname : (fn.name == "runtime.NumGoroutine") = false) {C : CF} (hC : coF P fn = some C) {A : Ann} {e : {Ω : Type} → Env Ω} (he : GoodE P e) (hmix : P.follows .mixedOrders = true)
    {ts : List AT} {F : List (List Int) → Option (Bool × SV × SH)}
    (hrun : ∀ l r hr, lenAs ts l → F l = some (true, r, hr) → Flat r ∧ FlatH hr ∧ ∃ H, trim 0 r [] H = hr ∧ sxFn (e (Ω := SV × SH)) A C (encAs ts l) [] (fun r h => some (r, h)) = some (r, H)) :
    Good1 P g (fun {Ω} => conSpec ts F (Ω := Ω)) := by
  have hbody : ∃ c, fn.body = some c := by
    unfold coF at hC
    split at hC
    · rename_i c hb; exact ⟨c, hb⟩
    · cases hC
  obtain ⟨c, hb⟩ := hbody
  have henter : ∀ (args : Array Value) (w : World), (callFunc g args).run P w = .ok (.enter g args) w := fun args w => by
    have h1 : fn.name ≠ "runtime.NumGoroutine" := by simpa using hname
    simp [callFunc, hf, h1, hb]
  refine ⟨fun Ω => ⟨henter, fun args h kk out hs => ?_⟩, fun Ω Ω' => con_par⟩
  unfold conSpec at hs
  split at hs
  · rename_i l hl
    split at hs
    · rename_i g r hr hF
      cases g with
      | false => simp [br] at hs
      | true =>
      simp only [br, cond_true] at hs
      obtain ⟨f1, f2, H, htr, hrun⟩ := hrun l r hr (lendAs_len hl) hF
      refine ⟨_, [], [], _, hs, ⟨by simp, fun l hl _ => by rw [hget_app, if_pos hl]⟩, fun cx w vals hg ha => ?_⟩
      refine (fn_calls (he.ok _) hmix hf hC hrun (cxA w) w vals (gamL w _) (lendAs_ok hg hl ha)).mono fun e w' ⟨v, cxq, e1, grq, hrq, hGq⟩ => ?_
      obtain ⟨cxs, hG, hr', hgrow⟩ := trim_sound (n0 := 0) (m := []) hGq hrq
      rw [htr] at hG
      have gr := hgrow (Nat.le_refl _) grq
      obtain ⟨k1, k2⟩ := join_flat hg gr hG f2
      have nm : (fun l => nmem l []) = fun _ => false := funext fun l => by simp [nmem]
      rw [nm]
      exact ⟨v, _, e1, k2, by rw [← hg.n]; exact SRep.flat _ _ f1 hr', k1⟩
    · cases hs
  · cases hs

 mutual
theorem noloc_locs : ∀ x : SV, ment (fun _ => true) x = false → locsD x = []
  | .d _, _ | .rp _ _ _, _ | .top, _ => by simp [locsD]
  | .ptr _ _, h | .pe _ _ _, h | .own _, h | .cs _ _ _ _ _, h | .mp _, h => by simp [ment] at h
  | .fn _ a b, h => by
    simp only [ment, Bool.or_eq_false_iff] at h
    simp [locsD, noloc_locsL a h.1, noloc_locsL b h.2]
  | .agg c, h => by simp only [ment] at h; simp [locsD, noloc_locsL c h]
  | .tup c, h => by simp only [ment] at h; simp [locsD, noloc_locsL c h]
  | .md _ c, h => by simp only [ment] at h; simp [locsD, noloc_locsL c h]
  | .rc c _, h => by simp only [ment] at h; simp [locsD, noloc_locsL c h]
theorem noloc_locsL : ∀ c : List SV, mentL (fun _ => true) c = false → locsDL c = []
  | [], _ => rfl
  | x :: r, h => by
    simp only [mentL, Bool.or_eq_false_iff] at h
    simp [locsDL, noloc_locs x h.1, noloc_locsL r h.2]
end

/-- A result that holds no loc: nothing is left. -/
theorem trim_none {r : SV} (hr : ment (fun _ => true) r = false) (H : SH) : trim 0 r [] H = [] := by
  unfold trim
  dsimp only
  have h1 : clos H 100000 (locsD r ++ []) [] = [] := by rw [noloc_locs r hr]; simp [clos]
  rw [h1]
  have h2 : ment (Nat.ble (max 0 (topOf []))) r = false := ment_sub (fun _ _ => rfl) r hr
  rw [h2]
  simp [topOf, mentH]
end Go.Sx

/- Loops that count; numbers. -/
namespace Go.Sx

theorem loop_up {Ω : Type} {lv : List Nat} {n0 : Nat} {f : SS → (SE → SS → Option Ω) → Option Ω} {k : SE → SS → Option Ω} (S : Nat → SS) : ∀ (m : Nat), (∀ i n, i < m → iter lv n0 f (n + 1) (S i) k = iter lv n0 f n (S (i + 1)) k) → ∀ n, iter lv n0 f (n + m) (S 0) k = iter lv n0 f n (S m) k
  | 0, _, n => rfl
  | m + 1, hs, n => by
    have h1 := loop_up S m (fun i n hi => hs i n (by omega)) (n + 1)
    rw [show n + (m + 1) = n + 1 + m by omega, h1]
    exact hs m n (by omega)

/-- Loops run by iter. -/
def itB {Ω : Type} : Itr Ω := fun lv n0 f s k => iter lv n0 f big s k

theorem itB_def {Ω : Type} {lv : List Nat} {n0 : Nat} {f : SS → (SE → SS → Option Ω) → Option Ω} {s : SS} {k : SE → SS → Option Ω} : itB lv n0 f s k = iter lv n0 f big s k := rfl

theorem sxI_eq {Ω : Type} (env : Env Ω) (A : Ann) : ∀ c : CC, sxI itB env A c = sx env A c
  | .skip => rfl
  | .reg _ _ => rfl
  | .seq a b => by
    funext c s k
    simp only [sxI, sx, sxI_eq env A a, sxI_eq env A b]
  | .cond n a b => by
    funext c s k
    simp only [sxI, sx, sxI_eq env A a, sxI_eq env A b]
  | .block id a => by
    funext c s k
    simp only [sxI, sx, sxI_eq env A a]
  | .loop a => by
    funext c s k
    simp only [sxI, sx, sxI_eq env A a, itB]
  | .exit _ => rfl
  | .ret => rfl
  | .bad => rfl

theorem sxFnI_eq {Ω : Type} (env : Env Ω) (A : Ann) (f : CF) (args : List SV) (h : SH) (k : SV → SH → Option Ω) : sxFnI itB env A f args h k = sxFn env A f args h k := by
  unfold sxFnI sxFn
  rw [sxI_eq]
  have : kfn f k = fun e s => match e with
      | .exit _ => none
      | _ => match rets s f.res with
        | some l => k (tup1 l) s.h
        | none => none := by
    funext e s
    cases e <;> rfl
  rw [this]
  rfl

theorem iter_succ {Ω : Type} {lv : List Nat} {n0 : Nat} {f : SS → (SE → SS → Option Ω) → Option Ω} {n : Nat} {s : SS} {k : SE → SS → Option Ω} : iter lv n0 f (n + 1) s k = f s (kitV lv n0 (fun s => iter lv n0 f n s k) k) := by
  rfl

theorem loop_n {Ω : Type} {lv : List Nat} {n0 : Nat} {f : SS → (SE → SS → Option Ω) → Option Ω} {k : SE → SS → Option Ω} (S : Nat → SS) (N m : Nat) (hm : m < N) (hs : ∀ i, i < m → ∀ I : SS → Option Ω, f (S i) (kitV lv n0 I k) = I (S (i + 1))) :
    ∃ n, iter lv n0 f N (S 0) k = f (S m) (kitV lv n0 (fun s => iter lv n0 f n s k) k) :=
  ⟨N - m - 1, by
    have h := loop_up (f := f) (lv := lv) (n0 := n0) (k := k) S m (fun i n hi => by rw [iter_succ, hs i hi]) (N - m - 1 + 1)
    rw [iter_succ] at h
    rw [← h]
    congr 1; omega⟩

theorem itB_first {Ω : Type} {lv : List Nat} {n0 : Nat} {f : SS → (SE → SS → Option Ω) → Option Ω} {s : SS} {k : SE → SS → Option Ω} : ∃ n, 1000000000 ≤ n ∧ itB lv n0 f s k = f s (kitV lv n0 (fun s => iter lv n0 f n s k) k) := by
  obtain ⟨m, hm, h⟩ : ∃ m, big = m + 1 ∧ 1000000000 ≤ m := ⟨big - 1, by unfold big; omega, by unfold big; omega⟩
  refine ⟨m, h, ?_⟩
  rw [itB_def, hm, iter_succ]

theorem fits_of {n b : Nat} (h : n * b ≤ 140737488355328) : fits n b = true := by simp [fits, h]

theorem w64 {x : Int} (h1 : -9223372036854775808 ≤ x) (h2 : x ≤ 9223372036854775807) : IntKind.wrap .i64 x = x := by
  rw [IntKind.wrap_i64]; omega

/-- A row that grows: ds i is what round i appends (w elements of sz cells). -/
def acc (sz : Nat) (q : Nat → Nat → DV) (m0 w : Nat) (ds : Nat → List DV) : Nat → Nat → Nat → DV
  | 0 => q
  | i + 1 => catF (m0 + w * i) (acc sz q m0 w ds i) (fun a j => lkD (ds i) (a * sz + j))

/-- A run's answer, the heap left aside. -/
theorem run_of_val {P : Program} {e : {Ω : Type} → Env Ω} (he : GoodE P e) {A : Ann} {C : CF} {args : List SV} {h : SH} {r : SV} (hr : sxFn (e (Ω := SV)) A C args h (fun r _ => some r) = some r) :
    ∃ H, sxFn (e (Ω := SV × SH)) A C args h (fun r h => some (r, h)) = some (r, H) := by
  obtain ⟨r', h', h1, h2⟩ := sxFn_par (he.par SV (SV × SH)) hr
  simp only [Option.some.injEq] at h1
  subst h1
  exact ⟨h', h2 _⟩

/-- A function without arguments that answers true. -/
def FTrue : List (List Int) → Option (Bool × SV × SH)
  | [] => some (true, B true, [])
  | _ => none

theorem trueGood {P : Program} {g : Nat} {fn : Func} (hf : P.funcs[g]? = some fn) (hname : (fn.name == "runtime.NumGoroutine") = false) {C : CF} (hC : coF P fn = some C) {A : Ann} {e : {Ω : Type} → Env Ω} (he : GoodE P e) (hmix : P.follows .mixedOrders = true)
    (hr : sxFn (e (Ω := SV)) A C [] [] (fun r _ => some r) = some (B true)) : Good1 P g (fun {Ω} => conSpec [] FTrue (Ω := Ω)) :=
  conGood hf hname hC he hmix fun l r hr' hl hF => by
    simp only [lenAs] at hl
    subst hl
    simp only [FTrue, Option.some.injEq, Prod.mk.injEq, true_and] at hF
    obtain ⟨rfl, rfl⟩ := hF
    obtain ⟨H, hH⟩ := run_of_val he hr
    exact ⟨trivial, trivial, H, trim_none rfl _, hH⟩
end Go.Sx

/- A law's arguments as symbolic values. -/
namespace Go.Sx

def getI : DV → Int
  | .v (.int _ x) => x
  | _ => 0

theorem wt_int {P : Program} {n : Nat} {t : TypeId} {k : IntKind} (hu : P.underlying t = some (.int k)) {l : List DV} (h : Wt P (n + 1) t l) : ∃ x, l = [.v (.int k x)] ∧ (Lit.int k x).wf = true := by
  simpa only [Wt, hu] using h

/-- A struct of integers. -/
theorem wt_ints {P : Program} {n : Nat} : ∀ {ks : List IntKind} {l : List DV}, l.length = ks.length → (∀ (j : Nat) (k : IntKind), ks[j]? = some k → ∃ x, (l.drop j).take 1 = [.v (.int k x)] ∧ (Lit.int k x).wf = true) →
    ∃ xs : List Int, xs.length = ks.length ∧ l = List.zipWith (fun k x => DV.v (.int k x)) ks xs ∧ ∀ (j : Nat) (k : IntKind), ks[j]? = some k → (Lit.int k (xs.getD j 0)).wf = true
  | [], l, hl, _ => ⟨[], rfl, by simpa using hl, by simp⟩
  | k :: ks, l, hl, h => by
    match l, hl with
    | y :: r, hl =>
      obtain ⟨x, h1, h2⟩ := h 0 k rfl
      obtain ⟨xs, e1, e2, e3⟩ := wt_ints (P := P) (n := n) (ks := ks) (l := r) (by simpa using hl) (fun j k' hk => by simpa using h (j + 1) k' (by simpa using hk))
      refine ⟨x :: xs, by simp [e1], ?_, fun j k' hk => ?_⟩
      · simp only [List.zipWith_cons_cons]
        rw [← e2]
        simp at h1
        rw [h1]
      · cases j with
        | zero => simp at hk; subst hk; simpa using h2
        | succ j => simpa using e3 j k' (by simpa using hk)
    | [], hl => simp at hl

theorem u64_wf {x : Int} (h : (Lit.int .u64 x).wf = true) : 0 ≤ x ∧ x ≤ 18446744073709551615 := by
  simp only [Lit.wf, Bool.and_eq_true, IntKind.min, IntKind.max, IntKind.signed, IntKind.bits] at h
  simpa using h

theorem agg_rep {cx : Cx} {w : World} {l : List DV} {v : Value} (h : DRepL cx.fz w l v.cells.toList) (hl : l.length ≠ 1) : SRep cx w (.agg (l.map .d)) v := by
  have key : ∀ (l : List DV) (c : List Value), DRepL cx.fz w l c → SRepL cx w (l.map .d) c := by
    intro l
    induction l with
    | nil =>
      intro c h
      have : c = [] := by simpa using h.1.symm
      subst this; simp [SRepL]
    | cons x r ih =>
      intro c h
      match c, h with
      | v :: c, h =>
        simp only [List.map_cons, SRepL, SRep]
        refine ⟨by simpa using h.2 0 (by simp), ih c ⟨by simpa using h.1, fun j hj => by simpa using h.2 (j + 1) (by simpa using hj)⟩⟩
      | [], h => have := h.1; simp at this
  cases v with
  | agg c =>
    simp only [SRep]
    exact ⟨c.toList, by simp, key l _ (by simpa [Value.cells] using h)⟩
  | _ => exact absurd (by simpa [Value.cells] using h.1) hl

theorem cell_rep {fz : Nat → Prop} {w : World} {x : DV} {v : Value} (h : DRepL fz w [x] v.cells.toList) (hn : ∀ c, v ≠ .agg c) : DRep fz w x v := by
  have e : v.cells = #[v] := by
    cases v with
    | agg c => exact absurd rfl (hn c)
    | _ => rfl
  rw [e] at h
  simpa using h.2 0 (by simp)

/-- Fields of one cell, integers of these kinds. -/
def fieldsInt (P : Program) : List Field → List IntKind → Nat → Bool
  | [], [], _ => true
  | f :: fs, k :: ks, j => Nat.beq f.offset j && (Nat.beq (P.cellsOf f.type) 1 && ((match P.underlying f.type with | some (.int k') => kEq k k' | _ => false) && fieldsInt P fs ks (j + 1)))
  | _, _, _ => false

theorem fieldsInt_wt {P : Program} {n : Nat} {l : List DV} : ∀ {fs : List Field} {ks : List IntKind} {j0 : Nat}, fieldsInt P fs ks j0 = true → (∀ f ∈ fs, Wt P (n + 1) f.type ((l.drop f.offset).take (P.cellsOf f.type))) →
    ∀ (j : Nat) (k : IntKind), ks[j]? = some k → ∃ x, (l.drop (j0 + j)).take 1 = [.v (.int k x)] ∧ (Lit.int k x).wf = true
  | [], [], j0, _, _, j, k, hk => by simp at hk
  | f :: fs, k0 :: ks, j0, h, hw, j, k, hk => by
    simp only [fieldsInt, Bool.and_eq_true] at h
    obtain ⟨h1, h2, h3, h4⟩ := h
    cases j with
    | zero =>
      simp only [List.getElem?_cons_zero, Option.some.injEq] at hk
      subst hk
      have := hw f (by simp)
      rw [nbeq.1 h1, nbeq.1 h2] at this
      split at h3
      · rename_i k' hu
        rw [← kEq_eq h3] at hu
        exact wt_int hu (by simpa using this)
      · cases h3
    | succ j =>
      have := fieldsInt_wt h4 (fun f hf => hw f (by simp [hf])) j k (by simpa using hk)
      rwa [show j0 + 1 + j = j0 + (j + 1) by omega] at this
  | [], _ :: _, _, h, _, _, _, _ => by simp [fieldsInt] at h
  | _ :: _, [], _, h, _, _, _, _ => by simp [fieldsInt] at h

theorem wt_struct {P : Program} {n : Nat} {t : TypeId} {fs : Array Field} {ks : List IntKind} (hu : P.underlying t = some (.struct fs)) (hc : P.cellsOf t = ks.length) (hf : fieldsInt P fs.toList ks 0 = true) {l : List DV} (h : Wt P (n + 2) t l) :
    ∃ xs : List Int, xs.length = ks.length ∧ l = List.zipWith (fun k x => DV.v (.int k x)) ks xs ∧ ∀ (j : Nat) (k : IntKind), ks[j]? = some k → (Lit.int k (xs.getD j 0)).wf = true := by
  rw [show n + 2 = (n + 1) + 1 from rfl] at h
  simp only [Wt, hu] at h
  exact wt_ints (P := P) (n := n) (h.1.trans hc) fun j k hk => by simpa using fieldsInt_wt hf h.2 j k hk
end Go.Sx

/- Arguments whose cells are integers, booleans and slices of integers: structs and arrays of such. -/
namespace Go.Sx

/-- What a cell holds. -/
inductive CT where
  | i (k : IntKind)
  | b
  | s (k : IntKind)

def tyC : DV → CT → Prop
  | x, .i k => ∃ n, x = .v (.int k n) ∧ (Lit.int k n).wf = true
  | x, .b => ∃ n, x = .v (.bool n)
  | x, .s k => ∃ xs : List Int, x = .ints k xs ∧ ∀ n ∈ xs, (Lit.int k n).wf = true

def Typ : List DV → List CT → Prop
  | [], [] => True
  | x :: r, c :: cs => tyC x c ∧ Typ r cs
  | _, _ => False

theorem Typ.append : ∀ {l l' : List DV} {a b : List CT}, Typ l a → Typ l' b → Typ (l ++ l') (a ++ b)
  | [], _, [], _, _, h => h
  | _ :: _, _, _ :: _, _, h, h' => ⟨h.1, Typ.append h.2 h'⟩
  | [], _, _ :: _, _, h, _ => h.elim
  | _ :: _, _, [], _, h, _ => h.elim

theorem Typ.split {l : List DV} {n : Nat} {a b : List CT} (h : Typ (l.take n) a) (h' : Typ (l.drop n) b) : Typ l (a ++ b) := by
  have := Typ.append h h'
  rwa [List.take_append_drop] at this

def getB : DV → Bool
  | .v (.bool x) => x
  | _ => false
def getS : DV → List Int
  | .ints _ l => l
  | _ => []

/-- Cells by the numbers, truths and lists that they hold. -/
def cellsD : List CT → Nat → (Nat → Int) → (Nat → Bool) → (Nat → List Int) → List DV
  | [], _, _, _, _ => []
  | .i k :: r, j, iv, bv, sv => .v (.int k (iv j)) :: cellsD r (j + 1) iv bv sv
  | .b :: r, j, iv, bv, sv => .v (.bool (bv j)) :: cellsD r (j + 1) iv bv sv
  | .s k :: r, j, iv, bv, sv => .ints k (sv j) :: cellsD r (j + 1) iv bv sv

end Go.Sx

/- Contracts with several outcomes; rows of which only what lies within counts. -/
namespace Go.Sx

def alts {Ω : Type} (k : SV → List Nat → List Nat → SH → Option Ω) (h : SH) : List (Bool × SV × SH) → Option Ω
  | [] => none
  | (g, r, hr) :: rest => br g (k (shft h.length r) [] [] (h ++ shftH h.length hr)) (alts k h rest)

def firstAlt : List (Bool × SV × SH) → Option (SV × SH)
  | [] => none
  | (g, r, hr) :: rest => bif g then some (r, hr) else firstAlt rest

def conSpecL (ts : List AT) (F : List (List Int) → List (Bool × SV × SH)) {Ω : Type} : Spec Ω := fun args h k =>
  match lendAs h ts args with
  | some l => alts k h (F l)
  | none => none

theorem alts_first {Ω : Type} {k : SV → List Nat → List Nat → SH → Option Ω} {h : SH} {out : Ω} : ∀ {L : List (Bool × SV × SH)}, alts k h L = some out → ∃ r hr, firstAlt L = some (r, hr) ∧ k (shft h.length r) [] [] (h ++ shftH h.length hr) = some out
  | [], e => by cases e
  | (g, r, hr) :: rest, e => by
    cases g with
    | true => exact ⟨r, hr, rfl, e⟩
    | false =>
      obtain ⟨r', hr', h1, h2⟩ := alts_first (L := rest) e
      exact ⟨r', hr', h1, h2⟩

theorem alts_of {Ω : Type} {k : SV → List Nat → List Nat → SH → Option Ω} {h : SH} : ∀ {L : List (Bool × SV × SH)} {r : SV} {hr : SH}, firstAlt L = some (r, hr) → alts k h L = k (shft h.length r) [] [] (h ++ shftH h.length hr)
  | [], r, hr, e => by cases e
  | (g, r', hr') :: rest, r, hr, e => by
    cases g with
    | true =>
      simp only [firstAlt, cond_true, Option.some.injEq, Prod.mk.injEq] at e
      obtain ⟨rfl, rfl⟩ := e
      rfl
    | false => exact alts_of (L := rest) e

theorem conL_par {ts : List AT} {F : List (List Int) → List (Bool × SV × SH)} {Ω Ω' : Type} : SpecPar (conSpecL ts F (Ω := Ω)) (conSpecL ts F (Ω := Ω')) := by
  intro args h k out hs
  unfold conSpecL at hs ⊢
  split at hs
  · rename_i l hl
    obtain ⟨r, hr, h1, h2⟩ := alts_first hs
    exact ⟨_, _, _, _, h2, fun k' => alts_of h1⟩
  · cases hs

/-- The same, but for what lies outside of a row. -/
def RowEqO (o o' : SO) : Prop := o = o' ∨ ∃ t sz n f f', o = .row t sz n f ∧ o' = .row t sz n f' ∧ ∀ i, i < n → ∀ j, j < sz → f i j = f' i j
def RowEq : SH → SH → Prop
  | [], [] => True
  | o :: r, o' :: r' => RowEqO o o' ∧ RowEq r r'
  | _, _ => False

theorem RowEq.refl : ∀ h : SH, RowEq h h
  | [] => trivial
  | _ :: r => ⟨.inl rfl, RowEq.refl r⟩
theorem RowEq.length : ∀ {h h' : SH}, RowEq h h' → h.length = h'.length
  | [], [], _ => rfl
  | _ :: r, _ :: r', e => by simp [RowEq.length e.2]
  | [], _ :: _, e => e.elim
  | _ :: _, [], e => e.elim
theorem RowEq.get : ∀ {h h' : SH}, RowEq h h' → ∀ l, RowEqO (hget h l) (hget h' l)
  | [], [], _, l => .inl rfl
  | _ :: r, _ :: r', e, 0 => by simpa [hget] using e.1
  | _ :: r, _ :: r', e, l + 1 => by simpa [hget] using RowEq.get e.2 l
  | [], _ :: _, e, _ => e.elim
  | _ :: _, [], e, _ => e.elim

theorem Gam.rowEq {cx : Cx} {h h' : SH} {w : World} (g : Gam cx h w) (e : RowEq h h') : Gam cx h' w := by
  have hlv : ∀ l, liv cx h' l → liv cx h l := fun l hl => by
    rcases e.get l with e1 | ⟨t, sz, n, f, f', e1, e2, _⟩
    · unfold liv at hl ⊢; rw [e1]; exact hl
    · unfold liv at hl ⊢; rw [e2] at hl; rw [e1]; exact hl
  refine ⟨by rw [← e.length]; exact g.n, fun l => ?_, fun l hl => g.lt l (hlv l hl), fun l hl => g.own l (hlv l hl), fun l m hl hm => g.inj l m (hlv l hl) (hlv m hm), g.fzlt, g.dj⟩
  have ho := g.obj l
  rcases e.get l with e1 | ⟨t, sz, n, f, f', e1, e2, e3⟩
  · rw [← e1]; exact ho
  · rw [e1] at ho
    rw [e2]
    simp only [ORep] at ho ⊢
    refine ⟨ho.1, ho.2.1, ho.2.2.1, ho.2.2.2.1, fun hn => ?_⟩
    obtain ⟨t', c', h1, h2, h3⟩ := ho.2.2.2.2 hn
    refine ⟨t', c', h1, h2, fun i hi j hj => ?_⟩
    obtain ⟨x, hx, hr⟩ := h3 i hi j hj
    exact ⟨x, hx, by rw [← e3 i hi j hj]; exact hr⟩

theorem conGoodL {P : Program} {g : Nat} {fn : Func} (hf : P.funcs[g]? = some fn) (hname : (fn.name == "runtime.NumGoroutine") = false) {C : CF} (hC : coF P fn = some C) {A : Ann} {e : {Ω : Type} → Env Ω} (he : GoodE P e) (hmix : P.follows .mixedOrders = true)
    {ts : List AT} {F : List (List Int) → List (Bool × SV × SH)}
    (hrun : ∀ l r hr, lenAs ts l → firstAlt (F l) = some (r, hr) → Flat r ∧ FlatH hr ∧ ∃ hr0 H, RowEq hr0 hr ∧ trim 0 r [] H = hr0 ∧ sxFn (e (Ω := SV × SH)) A C (encAs ts l) [] (fun r h => some (r, h)) = some (r, H)) :
    Good1 P g (fun {Ω} => conSpecL ts F (Ω := Ω)) := by
  have hbody : ∃ c, fn.body = some c := by
    unfold coF at hC
    split at hC
    · rename_i c hb; exact ⟨c, hb⟩
    · cases hC
  obtain ⟨c, hb⟩ := hbody
  have henter : ∀ (args : Array Value) (w : World), (callFunc g args).run P w = .ok (.enter g args) w := fun args w => by
    have h1 : fn.name ≠ "runtime.NumGoroutine" := by simpa using hname
    simp [callFunc, hf, h1, hb]
  refine ⟨fun Ω => ⟨henter, fun args h k out hs => ?_⟩, fun Ω Ω' => conL_par⟩
  unfold conSpecL at hs
  split at hs
  · rename_i l hl
    obtain ⟨r, hr, hF, hk⟩ := alts_first hs
    obtain ⟨f1, f2, hr0, H, heq, htr, hrun⟩ := hrun l r hr (lendAs_len hl) hF
    refine ⟨_, [], [], _, hk, ⟨by simp, fun l hl _ => by rw [hget_app, if_pos hl]⟩, fun cx w vals hg ha => ?_⟩
    refine (fn_calls (he.ok _) hmix hf hC hrun (cxA w) w vals (gamL w _) (lendAs_ok hg hl ha)).mono fun e w' ⟨v, cxq, e1, grq, hrq, hGq⟩ => ?_
    obtain ⟨cxs, hG, hr', hgrow⟩ := trim_sound (n0 := 0) (m := []) hGq hrq
    rw [htr] at hG
    have gr := hgrow (Nat.le_refl _) grq
    obtain ⟨k1, k2⟩ := join_flat hg gr (hG.rowEq heq) f2
    have nm : (fun l => nmem l []) = fun _ => false := funext fun l => by simp [nmem]
    rw [nm]
    exact ⟨v, _, e1, k2, by rw [← hg.n]; exact SRep.flat _ _ f1 hr', k1⟩
  · cases hs
end Go.Sx
