/- Contracts: a function of integers, aggregates of integers and slices of integers, known by what it answers. -/
import Derived.Test.YtaejdljgfmclpaaGreatSxFrame
import Derived.IntWalk
import Derived.Test.YtaejdljgfmclpaaGreatRows
import Derived.KernelRfl
set_option linter.all false
set_option linter.unusedVariables false
set_option linter.unusedSimpArgs false
set_option linter.unnecessarySimpa false
namespace Go.Sx

abbrev I (x : Int) : SV := .d (.v (.int .i64 x))
abbrev U (x : Int) : SV := .d (.v (.int .u64 x))
abbrev B (x : Bool) : SV := .d (.v (.bool x))

/-- The arguments' kinds: an integer, a boolean, a struct of integers, a slice of integers. -/
inductive AT where
  | i (k : IntKind)
  | b
  | g (ks : List IntKind)
  | s (k : IntKind)

def asK : List IntKind → List SV → Option (List Int)
  | [], [] => some []
  | k :: ks, .d (.v (.int k' x)) :: r => bif kEq k k' then (match asK ks r with | some l => some (x :: l) | none => none) else none
  | _, _ => none

def encK : List IntKind → List Int → List SV
  | k :: ks, x :: r => .d (.v (.int k x)) :: encK ks r
  | _, _ => []

def lendA (h : SH) : AT → SV → Option (List Int)
  | .i k, .d (.v (.int k' x)) => bif kEq k k' then some [x] else none
  | .b, .d (.v (.bool x)) => some [bif x then 1 else 0]
  | .g ks, .agg c => asK ks c
  | .s k, x => bif capOk x then intsOf h k x else none
  | _, _ => none

def encA : AT → List Int → SV
  | .i k, l => .d (.v (.int k (l.headD 0)))
  | .b, l => .d (.v (.bool (l.headD 0 == 1)))
  | .g ks, l => .agg (encK ks l)
  | .s k, l => .d (.ints k l)

def lendAs (h : SH) : List AT → List SV → Option (List (List Int))
  | [], [] => some []
  | t :: ts, x :: r => match lendA h t x, lendAs h ts r with
    | some a, some l => some (a :: l)
    | _, _ => none
  | _, _ => none

def encAs : List AT → List (List Int) → List SV
  | t :: ts, x :: r => encA t x :: encAs ts r
  | _, _ => []

/-- A function by its answer: the result, and the heap it leaves, its locs counted from 0. -/
def conSpec (ts : List AT) (F : List (List Int) → Option (Bool × SV × SH)) {Ω : Type} : Spec Ω := fun args h k =>
  match lendAs h ts args with
  | some l => match F l with
    | some (g, r, hr) => br g (k (shft h.length r) [] [] (h ++ shftH h.length hr)) none
    | none => none
  | none => none

 mutual
/-- Says nothing of data. -/
def Flat : SV → Prop
  | .d (.v _) => True
  | .d _ => False
  | .rp _ _ _ => False
  | .md _ _ => False
  | .rc _ _ => False
  | .fn _ a b => FlatL a ∧ FlatL b
  | .agg c => FlatL c
  | .tup c => FlatL c
  | _ => True
def FlatL : List SV → Prop
  | [] => True
  | x :: r => Flat x ∧ FlatL r
end

def FlatO : SO → Prop
  | .cells _ c => FlatL c
  | .row _ _ _ f => ∀ i j, ∃ v, f i j = .v v
  | .maps _ => False
  | _ => True

def FlatH : SH → Prop
  | [] => True
  | o :: r => FlatO o ∧ FlatH r

theorem FlatH.get : ∀ {h : SH}, FlatH h → ∀ l, FlatO (hget h l)
  | [], _, l => by simp [hget, FlatO]
  | o :: r, hf, 0 => by simpa [hget] using hf.1
  | o :: r, hf, l + 1 => by simpa [hget] using FlatH.get hf.2 l

/-- Two contexts side by side; nothing new is frozen. -/
def cxK (cx cxs : Cx) : Cx := { cxJ cx cxs with fz := cx.fz }

section
variable {cx cxs : Cx} {w : World}
 mutual
theorem SRep.flat : ∀ (x : SV) (u : Value), Flat x → SRep cxs w x u → SRep (cxK cx cxs) w (shft cx.n x) u
  | .d (.v x), u, _, h => by simp only [SRep, Sx.shft, DRep] at h ⊢; exact h
  | .d (.ints _ _), u, hf, _ => by simp [Flat] at hf
  | .d (.sl _ _ _), u, hf, _ => by simp [Flat] at hf
  | .ptr l o, u, _, h => by
      simp only [SRep, Sx.shft] at h ⊢
      simp only [cxK, cxJ, at_J]; exact ⟨by omega, h.2⟩
  | .pe l i o, u, _, h => by
      simp only [SRep, Sx.shft] at h ⊢
      simp only [cxK, cxJ, at_J]; exact ⟨by omega, h.2⟩
  | .rp sz f o, u, hf, _ => by simp [Flat] at hf
  | .md _ _, u, hf, _ => by simp [Flat] at hf
  | .rc _ _, u, hf, _ => by simp [Flat] at hf
  | .own l, u, _, h => by
      simp only [SRep, Sx.shft] at h ⊢
      simp only [cxK, cxJ, at_J]; exact ⟨by omega, h.2⟩
  | .cs l o sz m c, u, _, h => by
      simp only [SRep, Sx.shft] at h ⊢
      simp only [cxK, cxJ, at_J]; exact ⟨by omega, h.2⟩
  | .mp l, u, _, h => by
      simp only [SRep, Sx.shft] at h ⊢
      simp only [cxK, cxJ, at_J]; exact ⟨by omega, h.2⟩
  | .fn g a b, u, hf, h => by
      simp only [SRep, Sx.shft, Flat] at h hf ⊢
      obtain ⟨a', b', e, ha, hb⟩ := h
      exact ⟨a', b', e, SRepL.flat a a' hf.1 ha, SRepL.flat b b' hf.2 hb⟩
  | .agg c, u, hf, h => by
      simp only [SRep, Sx.shft, Flat] at h hf ⊢
      obtain ⟨c', e, hc⟩ := h
      exact ⟨c', e, SRepL.flat c c' hf hc⟩
  | .tup c, u, hf, h => by
      simp only [SRep, Sx.shft, Flat] at h hf ⊢
      obtain ⟨c', e, hc⟩ := h
      exact ⟨c', e, SRepL.flat c c' hf hc⟩
  | .top, u, _, _ => by simp only [SRep, Sx.shft]
theorem SRepL.flat : ∀ (c : List SV) (c' : List Value), FlatL c → SRepL cxs w c c' → SRepL (cxK cx cxs) w (shftL cx.n c) c'
  | [], [], _, _ => by simp only [SRepL, Sx.shftL]
  | x :: r, v :: vs, hf, h => by
      simp only [SRepL, Sx.shftL, FlatL] at h hf ⊢
      exact ⟨SRep.flat x v hf.1 h.1, SRepL.flat r vs hf.2 h.2⟩
  | [], _ :: _, _, h => by simp [SRepL] at h
  | _ :: _, [], _, h => by simp [SRepL] at h
end

theorem ORep.flat {l : Nat} : ∀ (o : SO), FlatO o → ORep cxs w l o → ORep (cxK cx cxs) w (cx.n + l) (shftO cx.n o)
  | .dead, _, _ => trivial
  | .cells t c, hf, h => by
    obtain ⟨t', c', h1, h2⟩ := h
    exact ⟨t', c', by simp only [cxK, cxJ, at_J]; exact h1, SRepL.flat c c' hf h2⟩
  | .rowi t k xs, _, h => by
    simp only [ORep, shftO] at h ⊢
    simp only [cxK, cxJ, at_J]; exact h
  | .row t sz n f, hf, h => by
    simp only [ORep, shftO] at h ⊢
    simp only [cxK, cxJ, at_J]
    refine ⟨h.1, h.2.1, h.2.2.1, h.2.2.2.1, fun hn => ?_⟩
    obtain ⟨t', c', h1, h2, h3⟩ := h.2.2.2.2 hn
    refine ⟨t', c', h1, h2, fun i hi j hj => ?_⟩
    obtain ⟨x, hx, hr⟩ := h3 i hi j hj
    obtain ⟨v, hv⟩ := hf i j
    rw [hv] at hr ⊢
    exact ⟨x, hx, by simpa [DRep] using hr⟩
  | .mapi k es, _, h => by simp only [ORep, shftO] at h ⊢; simp only [cxK, cxJ, at_J]; exact h
  | .mapb es, _, h => by simp only [ORep, shftO] at h ⊢; simp only [cxK, cxJ, at_J]; exact h
  | .maps es, hf, _ => hf.elim
end

theorem join_flat {cx : Cx} {h h' : SH} {w w' : World} {d : Nat → Prop} (hg : Gam cx h w) {p : Nat → Bool} {cxs : Cx} (gr : Grow p (cxL w d) w cxs w') (hG : Gam cxs h' w') (hfl : FlatH h') :
    Gam (cxK cx cxs) (h ++ shftH h.length h') w' ∧ Grow0 cx w (cxK cx cxs) w' := by
  have hsame : ∀ b, b < w.heap.size → w'.heap[b]? = w.heap[b]? := fun b hb => gr.same b (cxL_all hb)
  have hn := hg.n
  have hns := hG.n
  have gr' : Grow0 cx w (cxK cx cxs) w' := ⟨fun b hb => hb, fun b hb => hsame b (hg.fzlt b hb), gr.size, fun l hl _ => by
    refine ⟨by simp only [cxK, cxJ]; omega, ?_, ?_, ?_, ?_, ?_⟩ <;> simp [cxK, cxJ, hl], rfl, gr.io⟩
  have hget' : ∀ l, hget (h ++ shftH h.length h') l = if l < cx.n then hget h l else shftO cx.n (hget h' (l - cx.n)) := fun l => by
    rw [hget_app, shftH_get, ← hn]
  have lo : ∀ l, l < cx.n → liv (cxK cx cxs) (h ++ shftH h.length h') l → liv cx h l := fun l hl hv => by
    unfold liv at hv ⊢
    rw [hget', if_pos hl] at hv
    simpa [cxK, cxJ, hl] using hv
  have hi : ∀ l, ¬ l < cx.n → liv (cxK cx cxs) (h ++ shftH h.length h') l → liv cxs h' (l - cx.n) := fun l hl hv => by
    unfold liv at hv ⊢
    rw [hget', if_neg hl] at hv
    cases e : hget h' (l - cx.n) with
    | dead => rw [e] at hv; exact hv
    | rowi t k xs => rw [e] at hv; simpa [cxK, cxJ, hl, shftO] using hv
    | row t sz n f => rw [e] at hv; simpa [cxK, cxJ, hl, shftO] using hv
    | _ => trivial
  have new : ∀ l, liv cxs h' l → w.heap.size ≤ cxs.th l := fun l hl => by
    rcases Nat.lt_or_ge (cxs.th l) w.heap.size with h1 | h1
    · exact absurd (gr.hd _ (cxL_all h1)) (hG.own l hl)
    · exact h1
  refine ⟨⟨by simp [cxK, cxJ, shftH_length, hn, hns], fun l => ?_, fun l hl => ?_, fun l hl hhd => ?_, fun l m hl hm e => ?_, fun b hb => Nat.lt_of_lt_of_le (hg.fzlt b hb) gr.size, fun b hb hf => hg.dj b hb hf⟩, gr'⟩
  · rw [hget']
    split
    · rename_i hl
      exact ORep.keep (h := h) gr' hl _ rfl (fun hv => hsame _ (hg.lt l hv)) (hg.obj l)
    · rename_i hl
      have := ORep.flat (cx := cx) (l := l - cx.n) _ (hfl.get _) (hG.obj (l - cx.n))
      rwa [show cx.n + (l - cx.n) = l by omega] at this
  · by_cases h1 : l < cx.n
    · have := hg.lt l (lo l h1 hl)
      simp only [cxK, cxJ, h1, if_true]; exact Nat.lt_of_lt_of_le this gr.size
    · simp only [cxK, cxJ, h1, if_false]; exact hG.lt _ (hi l h1 hl)
  · by_cases h1 : l < cx.n
    · have h2 := lo l h1 hl
      simp only [cxK, cxJ, Cx.hd, h1, if_true] at hhd
      exact hg.own l h2 hhd
    · have h2 := hi l h1 hl
      have hge := new _ h2
      simp only [cxK, cxJ, Cx.hd, h1, if_false] at hhd
      have := hg.fzlt _ hhd
      omega
  · by_cases h1 : l < cx.n <;> by_cases h2 : m < cx.n
    · simp only [cxK, cxJ, h1, h2, if_true] at e
      exact hg.inj l m (lo l h1 hl) (lo m h2 hm) e
    · simp only [cxK, cxJ, h1, h2, if_true, if_false] at e
      have a := hg.lt l (lo l h1 hl)
      have b := new _ (hi m h2 hm)
      omega
    · simp only [cxK, cxJ, h1, h2, if_true, if_false] at e
      have a := hg.lt m (lo m h2 hm)
      have b := new _ (hi l h1 hl)
      omega
    · simp only [cxK, cxJ, h1, h2, if_false] at e
      have := hG.inj _ _ (hi l h1 hl) (hi m h2 hm) e
      omega

/-! ### what is lent -/
theorem asK_enc {cx cx' : Cx} {w : World} : ∀ {ks : List IntKind} {c : List SV} {l : List Int} {vs : List Value}, asK ks c = some l → SRepL cx w c vs → SRepL cx' w (encK ks l) vs
  | [], [], l, vs, h, hr => by
    simp only [asK, Option.some.injEq] at h; subst h
    match vs, hr with
    | [], _ => simp [encK, SRepL]
    | _ :: _, hr => simp [SRepL] at hr
  | k :: ks, .d (.v (.int k' x)) :: r, l, vs, h, hr => by
    simp only [asK] at h
    have hA := cond_some h
    clear h
    have hk := kEq_eq hA.1
    have h := hA.2
    clear hA
    subst hk
    split at h
    · rename_i l' hl
      simp only [Option.some.injEq] at h; subst h
      match vs, hr with
      | v :: vs, hr =>
        simp only [SRepL, SRep, encK] at hr ⊢
        exact ⟨hr.1, asK_enc hl hr.2⟩
      | [], hr => simp [SRepL] at hr
    · simp at h
  | [], _ :: _, l, vs, h, _ => by simp [asK] at h
  | _ :: _, [], l, vs, h, _ => by simp [asK] at h
  | k :: ks, .d (.v (.bool _)) :: r, l, vs, h, _ | k :: ks, .d (.v (.string _)) :: r, l, vs, h, _ | k :: ks, .d (.v (.pointer _)) :: r, l, vs, h, _ | k :: ks, .d (.v (.slice _ _ _)) :: r, l, vs, h, _
  | k :: ks, .d (.v (.agg _)) :: r, l, vs, h, _ | k :: ks, .d (.v (.tuple _)) :: r, l, vs, h, _ | k :: ks, .d (.v (.map _)) :: r, l, vs, h, _ | k :: ks, .d (.v (.func _ _ _)) :: r, l, vs, h, _ | k :: ks, .d (.v .nilFunc) :: r, l, vs, h, _ => by simp [asK] at h
  | k :: ks, .d (.ints _ _) :: r, l, vs, h, _ | k :: ks, .d (.sl _ _ _) :: r, l, vs, h, _ | k :: ks, .ptr _ _ :: r, l, vs, h, _ | k :: ks, .pe _ _ _ :: r, l, vs, h, _ | k :: ks, .rp _ _ _ :: r, l, vs, h, _ | k :: ks, .own _ :: r, l, vs, h, _
  | k :: ks, .cs _ _ _ _ _ :: r, l, vs, h, _ | k :: ks, .mp _ :: r, l, vs, h, _ | k :: ks, .md _ _ :: r, l, vs, h, _ | k :: ks, .rc _ _ :: r, l, vs, h, _ | k :: ks, .fn _ _ _ :: r, l, vs, h, _ | k :: ks, .agg _ :: r, l, vs, h, _ | k :: ks, .tup _ :: r, l, vs, h, _ | k :: ks, .top :: r, l, vs, h, _ => by simp [asK] at h

abbrev cxA (w : World) : Cx := cxL w (fun _ => True)

theorem lendA_ok {cx : Cx} {h : SH} {w : World} (hg : Gam cx h w) {t : AT} {x : SV} {xs : List Int} {u : Value} (hl : lendA h t x = some xs) (hx : SRep cx w x u) : SRep (cxA w) w (encA t xs) u := by
  unfold lendA at hl
  split at hl
  · rename_i k k' x'
    have hA := cond_some hl
    clear hl
    have hk := kEq_eq hA.1
    have hl := hA.2
    clear hA
    subst hk
    simp only [Option.some.injEq] at hl; subst hl
    simp only [SRep, encA, List.headD_cons] at hx ⊢
    exact hx
  · rename_i x'
    simp only [Option.some.injEq] at hl; subst hl
    simp only [SRep, encA, List.headD_cons] at hx ⊢
    have : ((bif x' then (1 : Int) else 0) == 1) = x' := by cases x' <;> rfl
    rw [this]; exact hx
  · rename_i ks c
    simp only [SRep, encA] at hx ⊢
    obtain ⟨c', e, hc⟩ := hx
    exact ⟨c', e, asK_enc hl hc⟩
  · rename_i k
    have hA := cond_some hl
    clear hl
    obtain ⟨bb, cc, e, hle, hc⟩ := src_ad hg hx hA.2 hA.1
    simp only [SRep, encA, DRep]
    refine ⟨bb, cc, e, hle, fun hn => ?_⟩
    obtain ⟨b, o, e1, h1, h2⟩ := hc hn
    exact ⟨b, o, e1, ⟨h1, trivial⟩, h2⟩
  · cases hl

theorem lendAs_ok {cx : Cx} {h : SH} {w : World} (hg : Gam cx h w) : ∀ {ts : List AT} {args : List SV} {l : List (List Int)} {vs : List Value}, lendAs h ts args = some l → SRepL cx w args vs → SRepL (cxA w) w (encAs ts l) vs
  | [], [], l, vs, hl, hr => by
    simp only [lendAs, Option.some.injEq] at hl; subst hl
    match vs, hr with
    | [], _ => simp [encAs, SRepL]
    | _ :: _, hr => simp [SRepL] at hr
  | t :: ts, x :: r, l, vs, hl, hr => by
    simp only [lendAs] at hl
    split at hl
    · rename_i a l' h1 h2
      simp only [Option.some.injEq] at hl; subst hl
      match vs, hr with
      | v :: vs, hr =>
        simp only [SRepL, encAs] at hr ⊢
        exact ⟨lendA_ok hg h1 hr.1, lendAs_ok hg h2 hr.2⟩
      | [], hr => simp [SRepL] at hr
    · cases hl
  | [], _ :: _, l, vs, hl, _ => by simp [lendAs] at hl
  | _ :: _, [], l, vs, hl, _ => by simp [lendAs] at hl

theorem con_par {ts : List AT} {F : List (List Int) → Option (Bool × SV × SH)} {Ω Ω' : Type} : SpecPar (conSpec ts F (Ω := Ω)) (conSpec ts F (Ω := Ω')) := by
  intro args h k out hs
  unfold conSpec at hs ⊢
  split at hs
  · rename_i l hl
    split at hs
    · rename_i g r hr hF
      cases g with
      | true => exact ⟨_, _, _, _, hs, fun k' => rfl⟩
      | false => simp [br] at hs
    · cases hs
  · cases hs

/-- The lengths that the arguments have. -/
def lenA : AT → Nat → Prop
  | .i _, n => n = 1
  | .b, n => n = 1
  | .g ks, n => n = ks.length
  | .s _, _ => True

theorem asK_len : ∀ {ks : List IntKind} {c : List SV} {l : List Int}, asK ks c = some l → l.length = ks.length
  | [], c, l, h => by
    cases c with
    | nil => simp only [asK, Option.some.injEq] at h; subst h; rfl
    | cons _ _ => simp [asK] at h
  | k :: ks, c, l, h => by
    unfold asK at h
    split at h
    · rename_i e1; cases e1
    · rename_i k1 ks1 k' x r e1
      cases e1
      have hA := cond_some h
      clear h
      have h := hA.2
      clear hA
      split at h
      · rename_i l' hl
        simp only [Option.some.injEq] at h; subst h
        simp [asK_len hl]
      · cases h
    · cases h

theorem lendA_len {h : SH} {t : AT} {x : SV} {xs : List Int} (hl : lendA h t x = some xs) : lenA t xs.length := by
  unfold lendA at hl
  split at hl
  · have hA := cond_some hl
    clear hl
    have hl := hA.2
    simp only [Option.some.injEq] at hl; subst hl
    simp [lenA]
  · simp only [Option.some.injEq] at hl; subst hl
    simp [lenA]
  · simp only [lenA]; exact asK_len hl
  · trivial
  · cases hl

def lenAs : List AT → List (List Int) → Prop
  | [], l => l = []
  | t :: ts, l => ∃ a r, l = a :: r ∧ lenA t a.length ∧ lenAs ts r

theorem lendAs_len {h : SH} : ∀ {ts : List AT} {args : List SV} {l : List (List Int)}, lendAs h ts args = some l → lenAs ts l
  | [], [], l, hl => by simp only [lendAs, Option.some.injEq] at hl; subst hl; rfl
  | t :: ts, x :: r, l, hl => by
    simp only [lendAs] at hl
    split at hl
    · rename_i a l' h1 h2
      simp only [Option.some.injEq] at hl; subst hl
      exact ⟨_, _, rfl, lendA_len h1, lendAs_len h2⟩
    · cases hl
  | [], _ :: _, l, hl => by simp [lendAs] at hl
  | _ :: _, [], l, hl => by simp [lendAs] at hl

/-- A contract is met: the run on what is lent answers so, whatever follows. -/
theorem conGood {P : Program} {g : Nat} {fn : Func} (hf : P.funcs[g]? = some fn) (hname : (fn.name == "runtime.NumGoroutine") = false) {C : CF} (hC : coF P fn = some C) {A : Ann} {e : {Ω : Type} → Env Ω} (he : GoodE P e) (hmix : P.follows .mixedOrders = true)
    {ts : List AT} {F : List (List Int) → Option (Bool × SV × SH)}
    (hrun : ∀ l r hr, lenAs ts l → F l = some (true, r, hr) → Flat r ∧ FlatH hr ∧ ∃ H, trim 0 r [] H = hr ∧ sxFn (e (Ω := SV × SH)) A C (encAs ts l) [] (fun r h => some (r, h)) = some (r, H)) :
    Good1 P g (fun {Ω} => conSpec ts F (Ω := Ω)) := by
  have hbody : ∃ c, fn.body = some c := by
    unfold coF at hC
    split at hC
    · rename_i c hb; exact ⟨c, hb⟩
    · cases hC
  obtain ⟨c, hb⟩ := hbody
  have henter : ∀ (args : Array Value) (w : World), (callFunc g args).run P w = .ok (.enter g args) w := fun args w => by
    have h1 : fn.name ≠ "runtime.NumGoroutine" := by simpa using hname
    simp [callFunc, hf, h1, hb]
  refine ⟨fun Ω => ⟨henter, fun args h kk out hs => ?_⟩, fun Ω Ω' => con_par⟩
  unfold conSpec at hs
  split at hs
  · rename_i l hl
    split at hs
    · rename_i g r hr hF
      cases g with
      | false => simp [br] at hs
      | true =>
      simp only [br, cond_true] at hs
      obtain ⟨f1, f2, H, htr, hrun⟩ := hrun l r hr (lendAs_len hl) hF
      refine ⟨_, [], [], _, hs, ⟨by simp, fun l hl _ => by rw [hget_app, if_pos hl]⟩, fun cx w vals hg ha => ?_⟩
      refine (fn_calls (he.ok _) hmix hf hC hrun (cxA w) w vals (gamL w _) (lendAs_ok hg hl ha)).mono fun e w' ⟨v, cxq, e1, grq, hrq, hGq⟩ => ?_
      obtain ⟨cxs, hG, hr', hgrow⟩ := trim_sound (n0 := 0) (m := []) hGq hrq
      rw [htr] at hG
      have gr := hgrow (Nat.le_refl _) grq
      obtain ⟨k1, k2⟩ := join_flat hg gr hG f2
      have nm : (fun l => nmem l []) = fun _ => false := funext fun l => by simp [nmem]
      rw [nm]
      exact ⟨v, _, e1, k2, by rw [← hg.n]; exact SRep.flat _ _ f1 hr', k1⟩
    · cases hs
  · cases hs

 mutual
theorem noloc_locs : ∀ x : SV, ment (fun _ => true) x = false → locsD x = []
  | .d _, _ | .rp _ _ _, _ | .top, _ => by simp [locsD]
  | .ptr _ _, h | .pe _ _ _, h | .own _, h | .cs _ _ _ _ _, h | .mp _, h => by simp [ment] at h
  | .fn _ a b, h => by
    simp only [ment, Bool.or_eq_false_iff] at h
    simp [locsD, noloc_locsL a h.1, noloc_locsL b h.2]
  | .agg c, h => by simp only [ment] at h; simp [locsD, noloc_locsL c h]
  | .tup c, h => by simp only [ment] at h; simp [locsD, noloc_locsL c h]
  | .md _ c, h => by simp only [ment] at h; simp [locsD, noloc_locsL c h]
  | .rc c _, h => by simp only [ment] at h; simp [locsD, noloc_locsL c h]
theorem noloc_locsL : ∀ c : List SV, mentL (fun _ => true) c = false → locsDL c = []
  | [], _ => rfl
  | x :: r, h => by
    simp only [mentL, Bool.or_eq_false_iff] at h
    simp [locsDL, noloc_locs x h.1, noloc_locsL r h.2]
end

/-- A result that holds no loc: nothing is left. -/
theorem trim_none {r : SV} (hr : ment (fun _ => true) r = false) (H : SH) : trim 0 r [] H = [] := by
  unfold trim
  dsimp only
  have h1 : clos H 100000 (locsD r ++ []) [] = [] := by rw [noloc_locs r hr]; simp [clos]
  rw [h1]
  have h2 : ment (Nat.ble (max 0 (topOf []))) r = false := ment_sub (fun _ _ => rfl) r hr
  rw [h2]
  simp [topOf, mentH]
end Go.Sx

/- Loops that count; numbers. -/
namespace Go.Sx

theorem loop_up {Ω : Type} {lv : List Nat} {n0 : Nat} {f : SS → (SE → SS → Option Ω) → Option Ω} {k : SE → SS → Option Ω} (S : Nat → SS) : ∀ (m : Nat), (∀ i n, i < m → iter lv n0 f (n + 1) (S i) k = iter lv n0 f n (S (i + 1)) k) → ∀ n, iter lv n0 f (n + m) (S 0) k = iter lv n0 f n (S m) k
  | 0, _, n => rfl
  | m + 1, hs, n => by
    have h1 := loop_up S m (fun i n hi => hs i n (by omega)) (n + 1)
    rw [show n + (m + 1) = n + 1 + m by omega, h1]
    exact hs m n (by omega)

/-- Loops run by iter. -/
def itB {Ω : Type} : Itr Ω := fun lv n0 f s k => iter lv n0 f big s k

theorem itB_def {Ω : Type} {lv : List Nat} {n0 : Nat} {f : SS → (SE → SS → Option Ω) → Option Ω} {s : SS} {k : SE → SS → Option Ω} : itB lv n0 f s k = iter lv n0 f big s k := rfl

theorem sxI_eq {Ω : Type} (env : Env Ω) (A : Ann) : ∀ c : CC, sxI itB env A c = sx env A c
  | .skip => rfl
  | .reg _ _ => rfl
  | .seq a b => by
    funext c s k
    simp only [sxI, sx, sxI_eq env A a, sxI_eq env A b]
  | .cond n a b => by
    funext c s k
    simp only [sxI, sx, sxI_eq env A a, sxI_eq env A b]
  | .block id a => by
    funext c s k
    simp only [sxI, sx, sxI_eq env A a]
  | .loop a => by
    funext c s k
    simp only [sxI, sx, sxI_eq env A a, itB]
  | .exit _ => rfl
  | .ret => rfl
  | .bad => rfl

theorem sxFnI_eq {Ω : Type} (env : Env Ω) (A : Ann) (f : CF) (args : List SV) (h : SH) (k : SV → SH → Option Ω) : sxFnI itB env A f args h k = sxFn env A f args h k := by
  unfold sxFnI sxFn
  rw [sxI_eq]
  have : kfn f k = fun e s => match e with
      | .exit _ => none
      | _ => match rets s f.res with
        | some l => k (tup1 l) s.h
        | none => none := by
    funext e s
    cases e <;> rfl
  rw [this]
  rfl

theorem iter_succ {Ω : Type} {lv : List Nat} {n0 : Nat} {f : SS → (SE → SS → Option Ω) → Option Ω} {n : Nat} {s : SS} {k : SE → SS → Option Ω} : iter lv n0 f (n + 1) s k = f s (kitV lv n0 (fun s => iter lv n0 f n s k) k) := by
  rfl

theorem loop_n {Ω : Type} {lv : List Nat} {n0 : Nat} {f : SS → (SE → SS → Option Ω) → Option Ω} {k : SE → SS → Option Ω} (S : Nat → SS) (N m : Nat) (hm : m < N) (hs : ∀ i, i < m → ∀ I : SS → Option Ω, f (S i) (kitV lv n0 I k) = I (S (i + 1))) :
    ∃ n, iter lv n0 f N (S 0) k = f (S m) (kitV lv n0 (fun s => iter lv n0 f n s k) k) :=
  ⟨N - m - 1, by
    have h := loop_up (f := f) (lv := lv) (n0 := n0) (k := k) S m (fun i n hi => by rw [iter_succ, hs i hi]) (N - m - 1 + 1)
    rw [iter_succ] at h
    rw [← h]
    congr 1; omega⟩

theorem itB_first {Ω : Type} {lv : List Nat} {n0 : Nat} {f : SS → (SE → SS → Option Ω) → Option Ω} {s : SS} {k : SE → SS → Option Ω} : ∃ n, 1000000000 ≤ n ∧ itB lv n0 f s k = f s (kitV lv n0 (fun s => iter lv n0 f n s k) k) := by
  obtain ⟨m, hm, h⟩ : ∃ m, big = m + 1 ∧ 1000000000 ≤ m := ⟨big - 1, by unfold big; omega, by unfold big; omega⟩
  refine ⟨m, h, ?_⟩
  rw [itB_def, hm, iter_succ]

theorem fits_of {n b : Nat} (h : n * b ≤ 140737488355328) : fits n b = true := by simp [fits, h]

theorem w64 {x : Int} (h1 : -9223372036854775808 ≤ x) (h2 : x ≤ 9223372036854775807) : IntKind.wrap .i64 x = x := by
  rw [IntKind.wrap_i64]; omega

/-- A row that grows: ds i is what round i appends (w elements of sz cells). -/
def acc (sz : Nat) (q : Nat → Nat → DV) (m0 w : Nat) (ds : Nat → List DV) : Nat → Nat → Nat → DV
  | 0 => q
  | i + 1 => catF (m0 + w * i) (acc sz q m0 w ds i) (fun a j => lkD (ds i) (a * sz + j))

/-- A run's answer, the heap left aside. -/
theorem run_of_val {P : Program} {e : {Ω : Type} → Env Ω} (he : GoodE P e) {A : Ann} {C : CF} {args : List SV} {h : SH} {r : SV} (hr : sxFn (e (Ω := SV)) A C args h (fun r _ => some r) = some r) :
    ∃ H, sxFn (e (Ω := SV × SH)) A C args h (fun r h => some (r, h)) = some (r, H) := by
  obtain ⟨r', h', h1, h2⟩ := sxFn_par (he.par SV (SV × SH)) hr
  simp only [Option.some.injEq] at h1
  subst h1
  exact ⟨h', h2 _⟩

/-- A function without arguments that answers true. -/
def FTrue : List (List Int) → Option (Bool × SV × SH)
  | [] => some (true, B true, [])
  | _ => none

theorem trueGood {P : Program} {g : Nat} {fn : Func} (hf : P.funcs[g]? = some fn) (hname : (fn.name == "runtime.NumGoroutine") = false) {C : CF} (hC : coF P fn = some C) {A : Ann} {e : {Ω : Type} → Env Ω} (he : GoodE P e) (hmix : P.follows .mixedOrders = true)
    (hr : sxFn (e (Ω := SV)) A C [] [] (fun r _ => some r) = some (B true)) : Good1 P g (fun {Ω} => conSpec [] FTrue (Ω := Ω)) :=
  conGood hf hname hC he hmix fun l r hr' hl hF => by
    simp only [lenAs] at hl
    subst hl
    simp only [FTrue, Option.some.injEq, Prod.mk.injEq, true_and] at hF
    obtain ⟨rfl, rfl⟩ := hF
    obtain ⟨H, hH⟩ := run_of_val he hr
    exact ⟨trivial, trivial, H, trim_none rfl _, hH⟩
end Go.Sx

namespace Go.Sx.Pr
open Go Go.Sx Go.Proofs
set_option maxRecDepth 100000
theorem mix : Tryz.prog.follows .mixedOrders = true := by kernel_rfl
def K106_1 : CC := .seq (.block 2 (.seq (.reg false [⟨some 45, .fa 7 (.t 1), none, 0⟩,
     ⟨some 46, .ld 1 false (.t 45), none, 0⟩,
     ⟨some 47, .bin .lss (.t 46) (.c (.d (.v (.int .u64 1)))), none, 0⟩,
     ⟨some 44, .mv (.t 47), none, 0⟩])
   (.cond 44 (.seq (.reg false [⟨some 2, .mv (.c (.d (.v (.int .i64 1)))), none, 0⟩])
     (.ret))
     (.seq (.reg false [⟨some 49, .fa 7 (.t 1), none, 0⟩,
       ⟨some 50, .ld 1 false (.t 49), none, 0⟩,
       ⟨some 51, .bin .gtr (.t 50) (.c (.d (.v (.int .u64 1048576)))), none, 0⟩,
       ⟨some 48, .mv (.t 51), none, 0⟩])
     (.cond 48 (.seq (.reg false [⟨some 2, .mv (.c (.d (.v (.int .i64 2)))), none, 0⟩])
       (.ret))
       (.skip))))))
 (.seq (.reg false [⟨some 52, .mv (.t 4), none, 0⟩,
   ⟨some 2, .mv (.t 52), none, 0⟩])
 (.ret))
def L106_2 : CC := .seq (.reg false [⟨some 31, .bin .lss (.t 30) (.c (.d (.v (.int .i64 7)))), none, 0⟩])
 (.seq (.cond 31 (.skip)
   (.exit 0))
 (.seq (.block 1 (.seq (.reg false [⟨some 32, .ixg 7 3 true (.t 29) (.t 30), none, 0⟩,
     ⟨some 6, .newc 139 [.d (.v (.int .i64 0)), .d (.v (.int .i64 0)), .d (.v (.int .i64 0))], none, 0⟩,
     ⟨none, .st 3 (.t 6) (.t 32), none, 0⟩])
   (.seq (.seq (.reg false [⟨some 33, .fa 0 (.t 6), none, 0⟩,
     ⟨some 34, .ld 1 false (.t 33), none, 0⟩,
     ⟨some 35, .fa 1 (.t 6), none, 0⟩,
     ⟨some 36, .ld 1 false (.t 35), none, 0⟩,
     ⟨some 37, .bin .lss (.t 34) (.t 36), none, 0⟩])
   (.cond 37 (.seq (.reg false [⟨some 2, .mv (.c (.d (.v (.int .i64 1)))), none, 0⟩])
     (.ret))
     (.skip)))
   (.seq (.reg false [⟨some 38, .fa 0 (.t 6), none, 0⟩,
     ⟨some 39, .ld 1 false (.t 38), none, 0⟩,
     ⟨some 40, .fa 2 (.t 6), none, 0⟩,
     ⟨some 41, .ld 1 false (.t 40), none, 0⟩,
     ⟨some 42, .bin .gtr (.t 39) (.t 41), none, 0⟩])
   (.cond 42 (.reg false [⟨some 4, .mv (.c (.d (.v (.int .i64 2)))), none, 0⟩])
     (.skip))))))
 (.reg false [⟨some 43, .bin .add (.t 30) (.c (.d (.v (.int .i64 1)))), none, 0⟩,
   ⟨some 30, .mv (.t 43), none, 0⟩])))
def K106_3 : CC := .reg false [⟨some 29, .ld 21 true (.t 3), none, 0⟩,
   ⟨some 30, .mv (.c (.d (.v (.int .i64 0)))), none, 0⟩]
def K106_4 : CC := .reg false [⟨some 4, .mv (.c (.d (.v (.int .i64 0)))), none, 0⟩]
def K106_5 : CC := .reg false [⟨some 7, .fa 0 (.t 1), none, 0⟩,
   ⟨some 8, .ld 1 false (.t 7), none, 0⟩,
   ⟨some 9, .bld [.d (.v (.int .i64 0)), .d (.v (.int .i64 0)), .d (.v (.int .i64 0))] [(0, 1, .t 8), (1, 1, .c (.d (.v (.int .i64 1)))), (2, 1, .c (.d (.v (.int .i64 8))))], none, 0⟩,
   ⟨some 10, .fa 1 (.t 1), none, 0⟩,
   ⟨some 11, .ld 1 false (.t 10), none, 0⟩,
   ⟨some 12, .bld [.d (.v (.int .i64 0)), .d (.v (.int .i64 0)), .d (.v (.int .i64 0))] [(0, 1, .t 11), (1, 1, .c (.d (.v (.int .i64 1)))), (2, 1, .c (.d (.v (.int .i64 8))))], none, 0⟩,
   ⟨some 13, .fa 2 (.t 1), none, 0⟩,
   ⟨some 14, .ld 1 false (.t 13), none, 0⟩,
   ⟨some 15, .bld [.d (.v (.int .i64 0)), .d (.v (.int .i64 0)), .d (.v (.int .i64 0))] [(0, 1, .t 14), (1, 1, .c (.d (.v (.int .i64 1)))), (2, 1, .c (.d (.v (.int .i64 16))))], none, 0⟩,
   ⟨some 16, .fa 3 (.t 1), none, 0⟩,
   ⟨some 17, .ld 1 false (.t 16), none, 0⟩,
   ⟨some 18, .bld [.d (.v (.int .i64 0)), .d (.v (.int .i64 0)), .d (.v (.int .i64 0))] [(0, 1, .t 17), (1, 1, .c (.d (.v (.int .i64 1)))), (2, 1, .c (.d (.v (.int .i64 4))))], none, 0⟩,
   ⟨some 19, .fa 4 (.t 1), none, 0⟩,
   ⟨some 20, .ld 1 false (.t 19), none, 0⟩,
   ⟨some 21, .bld [.d (.v (.int .i64 0)), .d (.v (.int .i64 0)), .d (.v (.int .i64 0))] [(0, 1, .t 20), (1, 1, .c (.d (.v (.int .i64 1)))), (2, 1, .c (.d (.v (.int .i64 32))))], none, 0⟩,
   ⟨some 22, .fa 5 (.t 1), none, 0⟩,
   ⟨some 23, .ld 1 false (.t 22), none, 0⟩,
   ⟨some 24, .bld [.d (.v (.int .i64 0)), .d (.v (.int .i64 0)), .d (.v (.int .i64 0))] [(0, 1, .t 23), (1, 1, .c (.d (.v (.int .i64 0)))), (2, 1, .c (.d (.v (.int .i64 4))))], none, 0⟩,
   ⟨some 25, .fa 6 (.t 1), none, 0⟩,
   ⟨some 26, .ld 1 false (.t 25), none, 0⟩,
   ⟨some 27, .bld [.d (.v (.int .i64 0)), .d (.v (.int .i64 0)), .d (.v (.int .i64 0))] [(0, 1, .t 26), (1, 1, .c (.d (.v (.int .i64 1)))), (2, 1, .c (.d (.v (.int .i64 8))))], none, 0⟩,
   ⟨some 28, .bld [.d (.v (.int .i64 0)), .d (.v (.int .i64 0)), .d (.v (.int .i64 0)), .d (.v (.int .i64 0)), .d (.v (.int .i64 0)), .d (.v (.int .i64 0)), .d (.v (.int .i64 0)), .d (.v (.int .i64 0)), .d (.v (.int .i64 0)), .d (.v (.int .i64 0)), .d (.v (.int .i64 0)), .d (.v (.int .i64 0)), .d (.v (.int .i64 0)), .d (.v (.int .i64 0)), .d (.v (.int .i64 0)), .d (.v (.int .i64 0)), .d (.v (.int .i64 0)), .d (.v (.int .i64 0)), .d (.v (.int .i64 0)), .d (.v (.int .i64 0)), .d (.v (.int .i64 0))] [(0, 3, .t 9), (3, 3, .t 12), (6, 3, .t 15), (9, 3, .t 18), (12, 3, .t 21), (15, 3, .t 24), (18, 3, .t 27)], none, 0⟩,
   ⟨some 3, .newc 140 [.d (.v (.int .i64 0)), .d (.v (.int .i64 0)), .d (.v (.int .i64 0)), .d (.v (.int .i64 0)), .d (.v (.int .i64 0)), .d (.v (.int .i64 0)), .d (.v (.int .i64 0)), .d (.v (.int .i64 0)), .d (.v (.int .i64 0)), .d (.v (.int .i64 0)), .d (.v (.int .i64 0)), .d (.v (.int .i64 0)), .d (.v (.int .i64 0)), .d (.v (.int .i64 0)), .d (.v (.int .i64 0)), .d (.v (.int .i64 0)), .d (.v (.int .i64 0)), .d (.v (.int .i64 0)), .d (.v (.int .i64 0)), .d (.v (.int .i64 0)), .d (.v (.int .i64 0))], none, 0⟩,
   ⟨none, .st 21 (.t 3) (.t 28), none, 0⟩]
def K106_6 : CC := .reg false [⟨some 1, .box 24 8 (.t 0), none, 0⟩,
   ⟨some 2, .mv (.c (.d (.v (.int .i64 0)))), none, 0⟩]
/-- coatcheck/plan.Check -/
def C106 : CF := ⟨1, [(2, none)],
 .seq K106_6 (.seq K106_5 (.seq K106_4 (.seq (.seq K106_3 (.block 0 (.loop L106_2))) K106_1)))⟩
theorem c106 : coF Tryz.prog Tryz.f66 = some C106 := by kernel_rfl
def A106 : Ann := { keep := [0, 1, 2, 3, 4, 6, 29, 30, 31, 37, 42, 44, 48], live := [(0, [1, 4, 29, 30])] }
def E106 {Ω : Type} : Env Ω := enil
theorem e106 : GoodE Tryz.prog E106 := GoodE.nil
def Z106_2 {Ω : Type} (it : Itr Ω) (K : SV → SH → Option Ω) : SE → SS → Option Ω := kblk 0 (kseq it E106 A106 K106_1 0 (kfn C106 K))
def K19_1 : CC := .seq (.reg false [⟨some 2, .mv (.c (.d (.v (.int .i64 0)))), none, 0⟩])
 (.ret)
def K19_2 : CC := .cond 78 (.seq (.reg false [⟨some 2, .mv (.c (.d (.v (.int .i64 2)))), none, 0⟩])
   (.ret))
   (.skip)
def K19_3 : CC := .reg false [⟨some 41, .fa 0 (.t 1), none, 0⟩,
   ⟨some 42, .ld 1 false (.t 41), none, 0⟩,
   ⟨some 43, .bin .gtr (.t 42) (.c (.d (.v (.int .i64 8)))), none, 0⟩,
   ⟨some 44, .mv (.t 43), none, 0⟩,
   ⟨some 45, .fa 1 (.t 1), some (44, false), 0⟩,
   ⟨some 46, .ld 1 false (.t 45), some (44, false), 0⟩,
   ⟨some 47, .bin .gtr (.t 46) (.c (.d (.v (.int .i64 8)))), some (44, false), 0⟩,
   ⟨some 48, .pick (.t 44) (.c (.d (.v (.bool true)))) (.t 47), none, 0⟩,
   ⟨some 49, .mv (.t 48), none, 0⟩,
   ⟨some 50, .fa 2 (.t 1), some (49, false), 0⟩,
   ⟨some 51, .ld 1 false (.t 50), some (49, false), 0⟩,
   ⟨some 52, .bin .gtr (.t 51) (.c (.d (.v (.int .i64 16)))), some (49, false), 0⟩,
   ⟨some 53, .pick (.t 49) (.c (.d (.v (.bool true)))) (.t 52), none, 0⟩,
   ⟨some 54, .mv (.t 53), none, 0⟩,
   ⟨some 55, .fa 3 (.t 1), some (54, false), 0⟩,
   ⟨some 56, .ld 1 false (.t 55), some (54, false), 0⟩,
   ⟨some 57, .bin .gtr (.t 56) (.c (.d (.v (.int .i64 4)))), some (54, false), 0⟩,
   ⟨some 58, .pick (.t 54) (.c (.d (.v (.bool true)))) (.t 57), none, 0⟩,
   ⟨some 59, .mv (.t 58), none, 0⟩,
   ⟨some 60, .fa 4 (.t 1), some (59, false), 0⟩,
   ⟨some 61, .ld 1 false (.t 60), some (59, false), 0⟩,
   ⟨some 62, .bin .gtr (.t 61) (.c (.d (.v (.int .i64 32)))), some (59, false), 0⟩,
   ⟨some 63, .pick (.t 59) (.c (.d (.v (.bool true)))) (.t 62), none, 0⟩,
   ⟨some 64, .mv (.t 63), none, 0⟩,
   ⟨some 65, .fa 6 (.t 1), some (64, false), 0⟩,
   ⟨some 66, .ld 1 false (.t 65), some (64, false), 0⟩,
   ⟨some 67, .bin .gtr (.t 66) (.c (.d (.v (.int .i64 8)))), some (64, false), 0⟩,
   ⟨some 68, .pick (.t 64) (.c (.d (.v (.bool true)))) (.t 67), none, 0⟩,
   ⟨some 69, .mv (.t 68), none, 0⟩,
   ⟨some 70, .fa 5 (.t 1), some (69, false), 0⟩,
   ⟨some 71, .ld 1 false (.t 70), some (69, false), 0⟩,
   ⟨some 72, .bin .gtr (.t 71) (.c (.d (.v (.int .i64 4)))), some (69, false), 0⟩,
   ⟨some 73, .pick (.t 69) (.c (.d (.v (.bool true)))) (.t 72), none, 0⟩,
   ⟨some 74, .mv (.t 73), none, 0⟩,
   ⟨some 75, .fa 7 (.t 1), some (74, false), 0⟩,
   ⟨some 76, .ld 1 false (.t 75), some (74, false), 0⟩,
   ⟨some 77, .bin .gtr (.t 76) (.c (.d (.v (.int .u64 1048576)))), some (74, false), 0⟩,
   ⟨some 78, .pick (.t 74) (.c (.d (.v (.bool true)))) (.t 77), none, 0⟩]
def K19_4 : CC := .cond 40 (.seq (.reg false [⟨some 2, .mv (.c (.d (.v (.int .i64 1)))), none, 0⟩])
   (.ret))
   (.skip)
def K19_5 : CC := .reg false [⟨some 3, .fa 0 (.t 1), none, 0⟩,
   ⟨some 4, .ld 1 false (.t 3), none, 0⟩,
   ⟨some 5, .bin .lss (.t 4) (.c (.d (.v (.int .i64 1)))), none, 0⟩,
   ⟨some 6, .mv (.t 5), none, 0⟩,
   ⟨some 7, .fa 1 (.t 1), some (6, false), 0⟩,
   ⟨some 8, .ld 1 false (.t 7), some (6, false), 0⟩,
   ⟨some 9, .bin .lss (.t 8) (.c (.d (.v (.int .i64 1)))), some (6, false), 0⟩,
   ⟨some 10, .pick (.t 6) (.c (.d (.v (.bool true)))) (.t 9), none, 0⟩,
   ⟨some 11, .mv (.t 10), none, 0⟩,
   ⟨some 12, .fa 2 (.t 1), some (11, false), 0⟩,
   ⟨some 13, .ld 1 false (.t 12), some (11, false), 0⟩,
   ⟨some 14, .bin .lss (.t 13) (.c (.d (.v (.int .i64 1)))), some (11, false), 0⟩,
   ⟨some 15, .pick (.t 11) (.c (.d (.v (.bool true)))) (.t 14), none, 0⟩,
   ⟨some 16, .mv (.t 15), none, 0⟩,
   ⟨some 17, .fa 3 (.t 1), some (16, false), 0⟩,
   ⟨some 18, .ld 1 false (.t 17), some (16, false), 0⟩,
   ⟨some 19, .bin .lss (.t 18) (.c (.d (.v (.int .i64 1)))), some (16, false), 0⟩,
   ⟨some 20, .pick (.t 16) (.c (.d (.v (.bool true)))) (.t 19), none, 0⟩,
   ⟨some 21, .mv (.t 20), none, 0⟩,
   ⟨some 22, .fa 4 (.t 1), some (21, false), 0⟩,
   ⟨some 23, .ld 1 false (.t 22), some (21, false), 0⟩,
   ⟨some 24, .bin .lss (.t 23) (.c (.d (.v (.int .i64 1)))), some (21, false), 0⟩,
   ⟨some 25, .pick (.t 21) (.c (.d (.v (.bool true)))) (.t 24), none, 0⟩,
   ⟨some 26, .mv (.t 25), none, 0⟩,
   ⟨some 27, .fa 6 (.t 1), some (26, false), 0⟩,
   ⟨some 28, .ld 1 false (.t 27), some (26, false), 0⟩,
   ⟨some 29, .bin .lss (.t 28) (.c (.d (.v (.int .i64 1)))), some (26, false), 0⟩,
   ⟨some 30, .pick (.t 26) (.c (.d (.v (.bool true)))) (.t 29), none, 0⟩,
   ⟨some 31, .mv (.t 30), none, 0⟩,
   ⟨some 32, .fa 5 (.t 1), some (31, false), 0⟩,
   ⟨some 33, .ld 1 false (.t 32), some (31, false), 0⟩,
   ⟨some 34, .bin .lss (.t 33) (.c (.d (.v (.int .i64 0)))), some (31, false), 0⟩,
   ⟨some 35, .pick (.t 31) (.c (.d (.v (.bool true)))) (.t 34), none, 0⟩,
   ⟨some 36, .mv (.t 35), none, 0⟩,
   ⟨some 37, .fa 7 (.t 1), some (36, false), 0⟩,
   ⟨some 38, .ld 1 false (.t 37), some (36, false), 0⟩,
   ⟨some 39, .bin .lss (.t 38) (.c (.d (.v (.int .u64 1)))), some (36, false), 0⟩,
   ⟨some 40, .pick (.t 36) (.c (.d (.v (.bool true)))) (.t 39), none, 0⟩]
def K19_6 : CC := .reg false [⟨some 1, .box 24 8 (.t 0), none, 0⟩,
   ⟨some 2, .mv (.c (.d (.v (.int .i64 0)))), none, 0⟩]
/-- coatcheck/coatcheckref02.Check -/
def C19 : CF := ⟨1, [(2, none)],
 .seq K19_6 (.seq (.seq K19_5 K19_4) (.seq (.seq K19_3 K19_2) K19_1))⟩
theorem c19 : coF Tryz.prog Tryz.f18 = some C19 := by kernel_rfl
def A19 : Ann := { keep := [0, 1, 2, 40, 78], live := [] }
def E19 {Ω : Type} : Env Ω := enil
theorem e19 : GoodE Tryz.prog E19 := GoodE.nil
def K20_1 : CC := .seq (.reg false [⟨some 74, .mv (.t 3), none, 0⟩,
   ⟨some 2, .mv (.t 74), none, 0⟩])
 (.ret)
def K20_2 : CC := .reg false [⟨some 55, .mv (.t 7), none, 0⟩,
   ⟨some 56, .bin .add (.t 55) (.c (.d (.v (.int .i64 1)))), none, 0⟩,
   ⟨some 7, .mv (.t 56), none, 0⟩]
def L20_3 : CC := .seq (.seq (.reg false [⟨some 62, .mv (.t 8), none, 0⟩,
   ⟨some 63, .fa 3 (.t 1), none, 0⟩,
   ⟨some 64, .ld 1 false (.t 63), none, 0⟩,
   ⟨some 65, .bin .lss (.t 62) (.t 64), none, 0⟩])
 (.cond 65 (.skip)
   (.exit 8)))
 (.seq (.block 9 (.reg false [⟨some 68, .mv (.t 3), none, 0⟩,
     ⟨some 69, .mv (.t 7), none, 0⟩,
     ⟨some 70, .mv (.t 8), none, 0⟩,
     ⟨some 71, .bld [.d (.v (.int .i64 0)), .d (.v (.int .i64 0)), .d (.v (.int .i64 0))] [(0, 1, .c (.d (.v (.int .i64 6)))), (1, 1, .t 69), (2, 1, .t 70)], none, 0⟩,
     ⟨some 72, .bsl 94 3 1 [.d (.v (.int .i64 0)), .d (.v (.int .i64 0)), .d (.v (.int .i64 0))] [(0, 3, .t 71)], none, 0⟩,
     ⟨some 73, .app 94 3 24 none (.t 68) (.t 72), none, 0⟩,
     ⟨some 3, .mv (.t 73), none, 0⟩]))
 (.reg false [⟨some 66, .mv (.t 8), none, 0⟩,
   ⟨some 67, .bin .add (.t 66) (.c (.d (.v (.int .i64 1)))), none, 0⟩,
   ⟨some 8, .mv (.t 67), none, 0⟩]))
def K20_4 : CC := .reg false [⟨some 8, .mv (.c (.d (.v (.int .i64 0)))), none, 0⟩]
def K20_5 : CC := .reg false [⟨some 57, .mv (.t 3), none, 0⟩,
   ⟨some 58, .mv (.t 7), none, 0⟩,
   ⟨some 59, .bld [.d (.v (.int .i64 0)), .d (.v (.int .i64 0)), .d (.v (.int .i64 0))] [(0, 1, .c (.d (.v (.int .i64 5)))), (1, 1, .t 58)], none, 0⟩,
   ⟨some 60, .bsl 94 3 1 [.d (.v (.int .i64 0)), .d (.v (.int .i64 0)), .d (.v (.int .i64 0))] [(0, 3, .t 59)], none, 0⟩,
   ⟨some 61, .app 94 3 24 none (.t 57) (.t 60), none, 0⟩,
   ⟨some 3, .mv (.t 61), none, 0⟩]
def K20_6 : CC := .seq (.reg false [⟨some 48, .mv (.t 7), none, 0⟩,
   ⟨some 49, .fa 1 (.t 1), none, 0⟩,
   ⟨some 50, .ld 1 false (.t 49), none, 0⟩,
   ⟨some 51, .fa 2 (.t 1), none, 0⟩,
   ⟨some 52, .ld 1 false (.t 51), none, 0⟩,
   ⟨some 53, .bin .mul (.t 50) (.t 52), none, 0⟩,
   ⟨some 54, .bin .lss (.t 48) (.t 53), none, 0⟩])
 (.cond 54 (.skip)
   (.exit 6))
def L20_7 : CC := .seq K20_6 (.seq (.block 7 (.seq K20_5 (.seq K20_4 (.block 8 (.loop L20_3))))) K20_2)
def K20_8 : CC := .reg false [⟨some 7, .mv (.c (.d (.v (.int .i64 0)))), none, 0⟩]
def L20_9 : CC := .seq (.seq (.reg false [⟨some 35, .mv (.t 6), none, 0⟩,
   ⟨some 36, .fa 4 (.t 1), none, 0⟩,
   ⟨some 37, .ld 1 false (.t 36), none, 0⟩,
   ⟨some 38, .bin .lss (.t 35) (.t 37), none, 0⟩])
 (.cond 38 (.skip)
   (.exit 4)))
 (.seq (.block 5 (.reg false [⟨some 41, .mv (.t 3), none, 0⟩,
     ⟨some 42, .mv (.t 6), none, 0⟩,
     ⟨some 43, .bld [.d (.v (.int .i64 0)), .d (.v (.int .i64 0)), .d (.v (.int .i64 0))] [(0, 1, .c (.d (.v (.int .i64 3)))), (1, 1, .t 42)], none, 0⟩,
     ⟨some 44, .mv (.t 6), none, 0⟩,
     ⟨some 45, .bld [.d (.v (.int .i64 0)), .d (.v (.int .i64 0)), .d (.v (.int .i64 0))] [(0, 1, .c (.d (.v (.int .i64 4)))), (1, 1, .t 44)], none, 0⟩,
     ⟨some 46, .bsl 94 3 2 [.d (.v (.int .i64 0)), .d (.v (.int .i64 0)), .d (.v (.int .i64 0))] [(0, 3, .t 43), (3, 3, .t 45)], none, 0⟩,
     ⟨some 47, .app 94 3 24 none (.t 41) (.t 46), none, 0⟩,
     ⟨some 3, .mv (.t 47), none, 0⟩]))
 (.reg false [⟨some 39, .mv (.t 6), none, 0⟩,
   ⟨some 40, .bin .add (.t 39) (.c (.d (.v (.int .i64 1)))), none, 0⟩,
   ⟨some 6, .mv (.t 40), none, 0⟩]))
def K20_10 : CC := .reg false [⟨some 6, .mv (.c (.d (.v (.int .i64 0)))), none, 0⟩]
def L20_11 : CC := .seq (.seq (.reg false [⟨some 24, .mv (.t 5), none, 0⟩,
   ⟨some 25, .fa 1 (.t 1), none, 0⟩,
   ⟨some 26, .ld 1 false (.t 25), none, 0⟩,
   ⟨some 27, .bin .lss (.t 24) (.t 26), none, 0⟩])
 (.cond 27 (.skip)
   (.exit 2)))
 (.seq (.block 3 (.reg false [⟨some 30, .mv (.t 3), none, 0⟩,
     ⟨some 31, .mv (.t 5), none, 0⟩,
     ⟨some 32, .bld [.d (.v (.int .i64 0)), .d (.v (.int .i64 0)), .d (.v (.int .i64 0))] [(0, 1, .c (.d (.v (.int .i64 2)))), (1, 1, .t 31)], none, 0⟩,
     ⟨some 33, .bsl 94 3 1 [.d (.v (.int .i64 0)), .d (.v (.int .i64 0)), .d (.v (.int .i64 0))] [(0, 3, .t 32)], none, 0⟩,
     ⟨some 34, .app 94 3 24 none (.t 30) (.t 33), none, 0⟩,
     ⟨some 3, .mv (.t 34), none, 0⟩]))
 (.reg false [⟨some 28, .mv (.t 5), none, 0⟩,
   ⟨some 29, .bin .add (.t 28) (.c (.d (.v (.int .i64 1)))), none, 0⟩,
   ⟨some 5, .mv (.t 29), none, 0⟩]))
def K20_12 : CC := .reg false [⟨some 5, .mv (.c (.d (.v (.int .i64 0)))), none, 0⟩]
def L20_13 : CC := .seq (.seq (.reg false [⟨some 13, .mv (.t 4), none, 0⟩,
   ⟨some 14, .fa 0 (.t 1), none, 0⟩,
   ⟨some 15, .ld 1 false (.t 14), none, 0⟩,
   ⟨some 16, .bin .lss (.t 13) (.t 15), none, 0⟩])
 (.cond 16 (.skip)
   (.exit 0)))
 (.seq (.block 1 (.reg false [⟨some 19, .mv (.t 3), none, 0⟩,
     ⟨some 20, .mv (.t 4), none, 0⟩,
     ⟨some 21, .bld [.d (.v (.int .i64 0)), .d (.v (.int .i64 0)), .d (.v (.int .i64 0))] [(0, 1, .c (.d (.v (.int .i64 1)))), (1, 1, .t 20)], none, 0⟩,
     ⟨some 22, .bsl 94 3 1 [.d (.v (.int .i64 0)), .d (.v (.int .i64 0)), .d (.v (.int .i64 0))] [(0, 3, .t 21)], none, 0⟩,
     ⟨some 23, .app 94 3 24 none (.t 19) (.t 22), none, 0⟩,
     ⟨some 3, .mv (.t 23), none, 0⟩]))
 (.reg false [⟨some 17, .mv (.t 4), none, 0⟩,
   ⟨some 18, .bin .add (.t 17) (.c (.d (.v (.int .i64 1)))), none, 0⟩,
   ⟨some 4, .mv (.t 18), none, 0⟩]))
def K20_14 : CC := .reg false [⟨some 4, .mv (.c (.d (.v (.int .i64 0)))), none, 0⟩]
def K20_15 : CC := .reg false [⟨some 9, .bld [.d (.v (.int .i64 0)), .d (.v (.int .i64 0)), .d (.v (.int .i64 0))] [(0, 1, .c (.d (.v (.int .i64 0)))), (1, 1, .c (.d (.v (.int .i64 0))))], none, 0⟩,
   ⟨some 10, .bld [.d (.v (.int .i64 0)), .d (.v (.int .i64 0)), .d (.v (.int .i64 0))] [(0, 1, .c (.d (.v (.int .i64 0)))), (1, 1, .c (.d (.v (.int .i64 1))))], none, 0⟩,
   ⟨some 11, .bld [.d (.v (.int .i64 0)), .d (.v (.int .i64 0)), .d (.v (.int .i64 0))] [(0, 1, .c (.d (.v (.int .i64 0)))), (1, 1, .c (.d (.v (.int .i64 2))))], none, 0⟩,
   ⟨some 12, .bsl 94 3 3 [.d (.v (.int .i64 0)), .d (.v (.int .i64 0)), .d (.v (.int .i64 0))] [(0, 3, .t 9), (3, 3, .t 10), (6, 3, .t 11)], none, 0⟩,
   ⟨some 3, .mv (.t 12), none, 0⟩]
def K20_16 : CC := .reg false [⟨some 1, .box 24 8 (.t 0), none, 0⟩,
   ⟨some 2, .mv (.c (.d (.v (.slice none 0 0)))), none, 0⟩]
/-- coatcheck/coatcheckref02.All -/
def C20 : CF := ⟨1, [(2, none)],
 .seq K20_16 (.seq K20_15 (.seq (.seq K20_14 (.block 0 (.loop L20_13))) (.seq (.seq K20_12 (.block 2 (.loop L20_11))) (.seq (.seq K20_10 (.block 4 (.loop L20_9))) (.seq (.seq K20_8 (.block 6 (.loop L20_7))) K20_1)))))⟩
theorem c20 : coF Tryz.prog Tryz.f44 = some C20 := by kernel_rfl
def A20 : Ann := { keep := [0, 1, 2, 3, 4, 5, 6, 7, 8, 16, 27, 38, 54, 65], live := [(0, [1, 3, 4]), (2, [1, 3, 5]), (4, [1, 3, 6]), (6, [1, 3, 7]), (8, [1, 3, 7, 8])] }
def E20 {Ω : Type} : Env Ω := enil
theorem e20 : GoodE Tryz.prog E20 := GoodE.nil
def Z20_3 {Ω : Type} (it : Itr Ω) (K : SE → SS → Option Ω) : SE → SS → Option Ω := kblk 8 (kblk 7 (kseq it E20 A20 K20_2 6 (K)))
def Z20_7 {Ω : Type} (it : Itr Ω) (K : SV → SH → Option Ω) : SE → SS → Option Ω := kblk 6 (kseq it E20 A20 K20_1 0 (kfn C20 K))
def Z20_9 {Ω : Type} (it : Itr Ω) (K : SV → SH → Option Ω) : SE → SS → Option Ω := kblk 4 (kseq it E20 A20 (.seq (.seq K20_8 (.block 6 (.loop L20_7))) K20_1) 0 (kfn C20 K))
def Z20_11 {Ω : Type} (it : Itr Ω) (K : SV → SH → Option Ω) : SE → SS → Option Ω := kblk 2 (kseq it E20 A20 (.seq (.seq K20_10 (.block 4 (.loop L20_9))) (.seq (.seq K20_8 (.block 6 (.loop L20_7))) K20_1)) 0 (kfn C20 K))
def Z20_13 {Ω : Type} (it : Itr Ω) (K : SV → SH → Option Ω) : SE → SS → Option Ω := kblk 0 (kseq it E20 A20 (.seq (.seq K20_12 (.block 2 (.loop L20_11))) (.seq (.seq K20_10 (.block 4 (.loop L20_9))) (.seq (.seq K20_8 (.block 6 (.loop L20_7))) K20_1))) 0 (kfn C20 K))
def K32_1 : CC := .seq (.reg false [⟨some 4, .mv (.c (.d (.v (.bool true)))), none, 0⟩])
 (.ret)
def L32_2 : CC := .seq (.seq (.reg false [⟨some 11, .mv (.t 5), none, 0⟩,
   ⟨some 12, .mv (.t 0), none, 0⟩,
   ⟨some 13, .len (.t 12), none, 0⟩,
   ⟨some 14, .bin .lss (.t 11) (.t 13), none, 0⟩])
 (.cond 14 (.skip)
   (.exit 0)))
 (.seq (.block 1 (.seq (.reg true [⟨some 17, .mv (.t 0), none, 0⟩,
     ⟨some 18, .mv (.t 5), none, 0⟩,
     ⟨some 19, .ixs 1 (.t 17) (.t 18), none, 3⟩,
     ⟨some 20, .ld 1 false (.t 19), none, 7⟩,
     ⟨some 21, .mv (.t 1), none, 0⟩,
     ⟨some 22, .mv (.t 5), none, 0⟩,
     ⟨some 23, .ixs 1 (.t 21) (.t 22), none, 48⟩,
     ⟨some 24, .ld 1 false (.t 23), none, 112⟩,
     ⟨some 25, .eq .int true (.t 20) (.t 24), none, 255⟩])
   (.cond 25 (.seq (.reg false [⟨some 4, .mv (.c (.d (.v (.bool false)))), none, 0⟩])
     (.ret))
     (.skip))))
 (.reg false [⟨some 15, .mv (.t 5), none, 0⟩,
   ⟨some 16, .bin .add (.t 15) (.c (.d (.v (.int .i64 1)))), none, 0⟩,
   ⟨some 5, .mv (.t 16), none, 0⟩]))
def K32_3 : CC := .reg false [⟨some 5, .mv (.c (.d (.v (.int .i64 0)))), none, 0⟩]
def K32_4 : CC := .seq (.reg false [⟨some 6, .mv (.t 0), none, 0⟩,
   ⟨some 7, .len (.t 6), none, 0⟩,
   ⟨some 8, .mv (.t 1), none, 0⟩,
   ⟨some 9, .len (.t 8), none, 0⟩,
   ⟨some 10, .eq .int true (.t 7) (.t 9), none, 0⟩])
 (.cond 10 (.seq (.reg false [⟨some 4, .mv (.c (.d (.v (.bool false)))), none, 0⟩])
   (.ret))
   (.skip))
def K32_5 : CC := .reg false [⟨some 4, .mv (.c (.d (.v (.bool false)))), none, 0⟩]
/-- coatcheck/coatcheckref02.Same -/
def C32 : CF := ⟨2, [(4, none)],
 .seq K32_5 (.seq K32_4 (.seq (.seq K32_3 (.block 0 (.loop L32_2))) K32_1))⟩
theorem c32 : coF Tryz.prog Tryz.f19 = some C32 := by kernel_rfl
def A32 : Ann := { keep := [0, 1, 4, 5, 10, 14, 25], live := [(0, [0, 1, 5])] }
def E32 {Ω : Type} : Env Ω := enil
theorem e32 : GoodE Tryz.prog E32 := GoodE.nil
def Z32_2 {Ω : Type} (it : Itr Ω) (K : SV → SH → Option Ω) : SE → SS → Option Ω := kblk 0 (kseq it E32 A32 K32_1 0 (kfn C32 K))
/-- slices.Clone[[]uint64,uint64] -/
def C65 : CF := ⟨1, [(2, none)],
 .seq (.reg false [⟨some 2, .mv (.c (.d (.v (.slice none 0 0)))), none, 0⟩])
 (.seq (.seq (.reg false [⟨some 3, .mv (.t 0), none, 0⟩,
   ⟨some 4, .eq .slc false (.t 3) (.c (.d (.v (.slice none 0 0)))), none, 0⟩])
 (.cond 4 (.seq (.reg false [⟨some 2, .mv (.c (.d (.v (.slice none 0 0)))), none, 0⟩])
   (.ret))
   (.skip)))
 (.seq (.reg false [⟨some 5, .bsl 22 1 0 [.d (.v (.int .u64 0))] [], none, 0⟩,
   ⟨some 6, .mv (.t 0), none, 0⟩,
   ⟨some 7, .app 22 1 8 (some .u64) (.t 5) (.t 6), none, 0⟩,
   ⟨some 2, .mv (.t 7), none, 0⟩])
 (.ret)))⟩
theorem c65 : coF Tryz.prog Tryz.f33 = some C65 := by kernel_rfl
def A65 : Ann := { keep := [0, 2, 4], live := [] }
def E65 {Ω : Type} : Env Ω := enil
theorem e65 : GoodE Tryz.prog E65 := GoodE.nil
end Go.Sx.Pr
