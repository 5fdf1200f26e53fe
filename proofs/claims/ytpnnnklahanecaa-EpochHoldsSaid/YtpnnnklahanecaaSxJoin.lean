/- Two contexts side by side: a callee that reaches nothing of its caller's, and what it leaves. -/
import Derived.Test.YtpnnnklahanecaaSxSop
set_option linter.unusedVariables false
set_option linter.unusedSimpArgs false
namespace Go.Sx

/-- Only new blocks came. -/
theorem Gam.later {cx : Cx} {h : SH} {w w' : World} (g : Gam cx h w) (hs : ∀ b, b < w.heap.size → w'.heap[b]? = w.heap[b]?) (hz : w.heap.size ≤ w'.heap.size) (hio : Io w w') : Gam cx h w' ∧ Grow0 cx w cx w' := by
  have gr : Grow0 cx w cx w' := ⟨fun _ h => h, fun b hb => hs b (g.fzlt b hb), hz, fun _ h _ => ⟨h, rfl, rfl, rfl, rfl, rfl⟩, rfl, hio⟩
  refine ⟨⟨g.n, fun m => ?_, fun m hm => Nat.lt_of_lt_of_le (g.lt m hm) hz, g.own, g.inj, fun b hb => Nat.lt_of_lt_of_le (g.fzlt b hb) hz, g.dj⟩, gr⟩
  rcases Nat.lt_or_ge m h.length with hm | hm
  · exact ORep.keep (h := h) gr (g.n ▸ hm) _ rfl (fun hv => hs _ (g.lt m hv)) (g.obj m)
  · rw [hget_ge hm]; trivial

 mutual
def shft (n : Nat) : SV → SV
  | .ptr l o => .ptr (n + l) o
  | .pe l i o => .pe (n + l) i o
  | .own l => .own (n + l)
  | .cs l o sz m c => .cs (n + l) o sz m c
  | .mp l => .mp (n + l)
  | .fn g a b => .fn g (shftL n a) (shftL n b)
  | .agg c => .agg (shftL n c)
  | .tup c => .tup (shftL n c)
  | .d x => .d x
  | .rp sz f o => .rp sz f o
  | .top => .top
def shftL (n : Nat) : List SV → List SV
  | [] => []
  | x :: r => shft n x :: shftL n r
end

def shftE (n : Nat) : List (Value × SV) → List (Value × SV)
  | [] => []
  | (q, x) :: r => (q, shft n x) :: shftE n r

def shftO (n : Nat) : SO → SO
  | .cells t c => .cells t (shftL n c)
  | .maps es => .maps (shftE n es)
  | o => o

def shftH (n : Nat) : SH → SH
  | [] => []
  | o :: r => shftO n o :: shftH n r

/-! ### two contexts side by side -/
def cxJ (cx cxs : Cx) : Cx where
  n := cx.n + cxs.n
  th := fun l => if l < cx.n then cx.th l else cxs.th (l - cx.n)
  ln := fun l => if l < cx.n then cx.ln l else cxs.ln (l - cx.n)
  cp := fun l => if l < cx.n then cx.cp l else cxs.cp (l - cx.n)
  nl := fun l => if l < cx.n then cx.nl l else cxs.nl (l - cx.n)
  rs := fun l => if l < cx.n then cx.rs l else cxs.rs (l - cx.n)
  fz := fun b => cx.fz b ∨ cxs.fz b
  fr := cx.fr

section
variable {cx cxs : Cx} {w : World}

theorem drep_J {x : DV} {u : Value} (h : DRep cxs.fz w x u) : DRep (cxJ cx cxs).fz w x u := DRep.mono (fun _ hb => .inr hb) (fun _ _ => rfl) x u h

theorem at_J {α : Type} (a b : Nat → α) (l : Nat) : (if cx.n + l < cx.n then a (cx.n + l) else b (cx.n + l - cx.n)) = b l := by
  rw [if_neg (by omega), Nat.add_sub_cancel_left]

 mutual
theorem SRep.shft : ∀ (x : SV) (u : Value), SRep cxs w x u → SRep (cxJ cx cxs) w (shft cx.n x) u
  | .d x, u, h => by simp only [SRep, Sx.shft] at h ⊢; exact drep_J h
  | .ptr l o, u, h => by
      simp only [SRep, Sx.shft] at h ⊢
      simp only [cxJ, at_J]; exact ⟨by omega, h.2⟩
  | .pe l i o, u, h => by
      simp only [SRep, Sx.shft] at h ⊢
      simp only [cxJ, at_J]; exact ⟨by omega, h.2⟩
  | .rp sz f o, u, h => by
      simp only [SRep, Sx.shft] at h ⊢
      obtain ⟨b, o', e, hb, hj⟩ := h
      refine ⟨b, o', e, .inr hb, fun j hl => ?_⟩
      obtain ⟨x, hx, hr⟩ := hj j hl
      exact ⟨x, hx, drep_J hr⟩
  | .own l, u, h => by
      simp only [SRep, Sx.shft] at h ⊢
      simp only [cxJ, at_J]; exact ⟨by omega, h.2⟩
  | .cs l o sz m c, u, h => by
      simp only [SRep, Sx.shft] at h ⊢
      simp only [cxJ, at_J]; exact ⟨by omega, h.2⟩
  | .mp l, u, h => by
      simp only [SRep, Sx.shft] at h ⊢
      simp only [cxJ, at_J]; exact ⟨by omega, h.2⟩
  | .fn g a b, u, h => by
      simp only [SRep, Sx.shft] at h ⊢
      obtain ⟨a', b', e, ha, hb⟩ := h
      exact ⟨a', b', e, SRepL.shft a a' ha, SRepL.shft b b' hb⟩
  | .agg c, u, h => by
      simp only [SRep, Sx.shft] at h ⊢
      obtain ⟨c', e, hc⟩ := h
      exact ⟨c', e, SRepL.shft c c' hc⟩
  | .tup c, u, h => by
      simp only [SRep, Sx.shft] at h ⊢
      obtain ⟨c', e, hc⟩ := h
      exact ⟨c', e, SRepL.shft c c' hc⟩
  | .top, u, _ => by simp only [SRep, Sx.shft]
theorem SRepL.shft : ∀ (c : List SV) (c' : List Value), SRepL cxs w c c' → SRepL (cxJ cx cxs) w (shftL cx.n c) c'
  | [], [], _ => by simp only [SRepL, Sx.shftL]
  | x :: r, v :: vs, h => by
      simp only [SRepL, Sx.shftL] at h ⊢
      exact ⟨SRep.shft x v h.1, SRepL.shft r vs h.2⟩
  | [], _ :: _, h => by simp [SRepL] at h
  | _ :: _, [], h => by simp [SRepL] at h
end

theorem SRepE.shft : ∀ (c : List (Value × SV)) (c' : List (Value × Value)), SRepE cxs w c c' → SRepE (cxJ cx cxs) w (shftE cx.n c) c'
  | [], [], _ => by simp only [SRepE, Sx.shftE]
  | (q, x) :: r, (q', v) :: vs, h => by
      simp only [SRepE, Sx.shftE] at h ⊢
      exact ⟨h.1, SRep.shft x v h.2.1, SRepE.shft r vs h.2.2⟩
  | [], _ :: _, h => by simp [SRepE] at h
  | _ :: _, [], h => by simp [SRepE] at h

theorem ORep.shft {l : Nat} : ∀ (o : SO), ORep cxs w l o → ORep (cxJ cx cxs) w (cx.n + l) (shftO cx.n o)
  | .dead, _ => trivial
  | .cells t c, h => by
    obtain ⟨t', c', h1, h2⟩ := h
    exact ⟨t', c', by simp only [cxJ, at_J]; exact h1, SRepL.shft c c' h2⟩
  | .rowi t k xs, h => by
    simp only [ORep, shftO] at h ⊢
    simp only [cxJ, at_J]; exact h
  | .row t sz n f, h => by
    simp only [ORep, shftO] at h ⊢
    simp only [cxJ, at_J]
    refine ⟨h.1, h.2.1, h.2.2.1, h.2.2.2.1, fun hn => ?_⟩
    obtain ⟨t', c', h1, h2, h3⟩ := h.2.2.2.2 hn
    refine ⟨t', c', h1, h2, fun i hi j hj => ?_⟩
    obtain ⟨x, hx, hr⟩ := h3 i hi j hj
    exact ⟨x, hx, drep_J (cx := cx) hr⟩
  | .mapi k es, h => by simp only [ORep, shftO] at h ⊢; simp only [cxJ, at_J]; exact h
  | .mapb es, h => by simp only [ORep, shftO] at h ⊢; simp only [cxJ, at_J]; exact h
  | .maps es, h => by
    obtain ⟨e, c, h1, h2⟩ := h
    exact ⟨e, c, by simp only [cxJ, at_J]; exact h1, SRepE.shft es _ h2⟩
end

theorem shftH_length {n : Nat} : ∀ {h : SH}, (shftH n h).length = h.length
  | [] => rfl
  | o :: r => by simp [shftH, shftH_length (h := r)]
theorem shftH_get {n : Nat} : ∀ {h : SH} {l : Nat}, hget (shftH n h) l = shftO n (hget h l)
  | [], l => by simp [shftH, hget, shftO]
  | o :: r, 0 => by simp [shftH, hget]
  | o :: r, l + 1 => by
    have := @shftH_get n r l
    simpa [shftH, hget] using this

theorem hget_app {h h' : SH} {l : Nat} : hget (h ++ h') l = if l < h.length then hget h l else hget h' (l - h.length) := by
  split
  · rename_i hl; simp [hget, List.getD_eq_getElem?_getD, List.getElem?_append_left hl]
  · rename_i hl; simp [hget, List.getD_eq_getElem?_getD, List.getElem?_append_right (Nat.le_of_not_lt hl)]

/-- The caller's frozen blocks are lent; all others are a frame. -/
def cxF (cx : Cx) (w : World) : Cx := { n := 0, th := fun _ => 0, ln := fun _ => 0, cp := fun _ => 0, nl := fun _ => false, rs := fun _ => 0, fz := cx.fz, fr := fun b => b < w.heap.size ∧ ¬ cx.fz b }

theorem gamF {cx : Cx} {h : SH} {w : World} (g : Gam cx h w) : Gam (cxF cx w) [] w := by
  refine ⟨rfl, fun l => ?_, fun l hl => ?_, fun l hl => ?_, fun l m hl => ?_, fun b hb => ?_, fun b hb hf => hf.2 hb⟩
  · simp [hget, ORep]
  · simp [liv, hget] at hl
  · simp [liv, hget] at hl
  · simp [liv, hget] at hl
  · rcases hb with hb | hb
    · exact g.fzlt b (.inl hb)
    · exact hb.1

theorem cxF_all {cx : Cx} {w : World} {b : Nat} (hb : b < w.heap.size) : (cxF cx w).hd b := by
  by_cases h : cx.fz b
  · exact .inl h
  · exact .inr ⟨hb, h⟩

 mutual
theorem SRep.noloc {cx cx' : Cx} {w : World} (hf : cx'.fz = cx.fz) : ∀ (x : SV) (u : Value), ment (fun _ => true) x = false → SRep cx w x u → SRep cx' w x u
  | .d x, u, _, h => by simp only [SRep] at h ⊢; rw [hf]; exact h
  | .rp sz f o, u, _, h => by simp only [SRep] at h ⊢; rw [hf]; exact h
  | .top, u, _, _ => by simp only [SRep]
  | .ptr l o, u, hm, _ => by simp [ment] at hm
  | .pe l i o, u, hm, _ => by simp [ment] at hm
  | .own l, u, hm, _ => by simp [ment] at hm
  | .cs l o sz m c, u, hm, _ => by simp [ment] at hm
  | .mp l, u, hm, _ => by simp [ment] at hm
  | .fn g a b, u, hm, h => by
      simp only [SRep, ment, Bool.or_eq_false_iff] at h hm ⊢
      obtain ⟨a', b', e, ha, hb⟩ := h
      exact ⟨a', b', e, SRepL.noloc hf a a' hm.1 ha, SRepL.noloc hf b b' hm.2 hb⟩
  | .agg c, u, hm, h => by
      simp only [SRep, ment] at h hm ⊢
      obtain ⟨c', e, hc⟩ := h
      exact ⟨c', e, SRepL.noloc hf c c' hm hc⟩
  | .tup c, u, hm, h => by
      simp only [SRep, ment] at h hm ⊢
      obtain ⟨c', e, hc⟩ := h
      exact ⟨c', e, SRepL.noloc hf c c' hm hc⟩
theorem SRepL.noloc {cx cx' : Cx} {w : World} (hf : cx'.fz = cx.fz) : ∀ (c : List SV) (c' : List Value), mentL (fun _ => true) c = false → SRepL cx w c c' → SRepL cx' w c c'
  | [], [], _, _ => by simp only [SRepL]
  | x :: r, v :: vs, hm, h => by
      simp only [SRepL, mentL, Bool.or_eq_false_iff] at h hm ⊢
      exact ⟨SRep.noloc hf x v hm.1 h.1, SRepL.noloc hf r vs hm.2 h.2⟩
  | [], _ :: _, _, h => by simp [SRepL] at h
  | _ :: _, [], _, h => by simp [SRepL] at h
end

theorem join_gam {cx : Cx} {h h' : SH} {w w' : World} (hg : Gam cx h w) {p : Nat → Bool} {cxs : Cx} (gr : Grow p (cxF cx w) w cxs w') (hG : Gam cxs h' w') :
    Gam (cxJ cx cxs) (h ++ shftH h.length h') w' ∧ Grow0 cx w (cxJ cx cxs) w' := by
  have hsame : ∀ b, b < w.heap.size → w'.heap[b]? = w.heap[b]? := fun b hb => gr.same b (cxF_all hb)
  obtain ⟨g1, _⟩ := Gam.later hg hsame gr.size gr.io
  have hn := hg.n
  have hns := hG.n
  have gr' : Grow0 cx w (cxJ cx cxs) w' := ⟨fun b hb => .inl hb, fun b hb => hsame b (hg.fzlt b hb), gr.size, fun l hl _ => by
    refine ⟨by simp only [cxJ]; omega, ?_, ?_, ?_, ?_, ?_⟩ <;> simp [cxJ, hl], rfl, gr.io⟩
  have hfrs : ∀ b, cxs.fr b ↔ (b < w.heap.size ∧ ¬ cx.fz b) := fun b => by rw [gr.fr]; rfl
  have hget' : ∀ l, hget (h ++ shftH h.length h') l = if l < cx.n then hget h l else shftO cx.n (hget h' (l - cx.n)) := fun l => by
    rw [hget_app, shftH_get, ← hn]
  have lo : ∀ l, l < cx.n → liv (cxJ cx cxs) (h ++ shftH h.length h') l → liv cx h l := fun l hl hv => by
    unfold liv at hv ⊢
    rw [hget', if_pos hl] at hv
    simpa [cxJ, hl] using hv
  have hi : ∀ l, ¬ l < cx.n → liv (cxJ cx cxs) (h ++ shftH h.length h') l → liv cxs h' (l - cx.n) := fun l hl hv => by
    unfold liv at hv ⊢
    rw [hget', if_neg hl] at hv
    cases e : hget h' (l - cx.n) with
    | dead => rw [e] at hv; exact hv
    | rowi t k xs => rw [e] at hv; simpa [cxJ, hl, shftO] using hv
    | row t sz n f => rw [e] at hv; simpa [cxJ, hl, shftO] using hv
    | _ => trivial
  have new : ∀ l, liv cxs h' l → w.heap.size ≤ cxs.th l := fun l hl => by
    rcases Nat.lt_or_ge (cxs.th l) w.heap.size with h1 | h1
    · exact absurd (gr.hd _ (cxF_all h1)) (hG.own l hl)
    · exact h1
  refine ⟨⟨by simp [cxJ, shftH_length, hn, hns], fun l => ?_, fun l hl => ?_, fun l hl hhd => ?_, fun l m hl hm e => ?_, fun b hb => ?_, fun b hb hf => ?_⟩, gr'⟩
  · rw [hget']
    split
    · rename_i hl
      exact ORep.keep (h := h) gr' hl _ rfl (fun hv => hsame _ (hg.lt l hv)) (hg.obj l)
    · rename_i hl
      have := ORep.shft (cx := cx) (l := l - cx.n) _ (hG.obj (l - cx.n))
      rwa [show cx.n + (l - cx.n) = l by omega] at this
  · by_cases h1 : l < cx.n
    · have := hg.lt l (lo l h1 hl)
      simp only [cxJ, h1, if_true]; exact Nat.lt_of_lt_of_le this gr.size
    · simp only [cxJ, h1, if_false]; exact hG.lt _ (hi l h1 hl)
  · by_cases h1 : l < cx.n
    · have h2 := lo l h1 hl
      have hlt := hg.lt l h2
      simp only [cxJ, Cx.hd, h1, if_true] at hhd
      rcases hhd with (h3 | h3) | h3
      · exact hg.own l h2 (.inl h3)
      · refine hG.dj _ h3 ((hfrs _).2 ⟨hlt, fun h4 => hg.own l h2 (.inl h4)⟩)
      · exact hg.own l h2 (.inr h3)
    · have h2 := hi l h1 hl
      have hge := new _ h2
      simp only [cxJ, Cx.hd, h1, if_false] at hhd
      rcases hhd with (h3 | h3) | h3
      · have := hg.fzlt _ (.inl h3); omega
      · exact hG.own _ h2 (.inl h3)
      · have := hg.fzlt _ (.inr h3); omega
  · by_cases h1 : l < cx.n <;> by_cases h2 : m < cx.n
    · simp only [cxJ, h1, h2, if_true] at e
      exact hg.inj l m (lo l h1 hl) (lo m h2 hm) e
    · simp only [cxJ, h1, h2, if_true, if_false] at e
      have a := hg.lt l (lo l h1 hl)
      have b := new _ (hi m h2 hm)
      omega
    · simp only [cxJ, h1, h2, if_true, if_false] at e
      have a := hg.lt m (lo m h2 hm)
      have b := new _ (hi l h1 hl)
      omega
    · simp only [cxJ, h1, h2, if_false] at e
      have := hG.inj _ _ (hi l h1 hl) (hi m h2 hm) e
      omega
  · rcases hb with (h1 | h1) | h1
    · exact Nat.lt_of_lt_of_le (hg.fzlt b (.inl h1)) gr.size
    · exact hG.fzlt b (.inl h1)
    · exact Nat.lt_of_lt_of_le (hg.fzlt b (.inr h1)) gr.size
  · have hlt := hg.fzlt b (.inr hf)
    rcases hb with h1 | h1
    · exact hg.dj b h1 hf
    · exact hG.dj b h1 ((hfrs b).2 ⟨hlt, fun h2 => hg.dj b h2 hf⟩)


 mutual
theorem shft_noloc {n : Nat} : ∀ x : SV, ment (fun _ => true) x = false → shft n x = x
  | .d x, _ | .rp sz g o, _ | .top, _ => by simp only [shft]
  | .ptr l o, h | .pe l i o, h | .own l, h | .cs l o sz m c, h | .mp l, h => by simp [ment] at h
  | .fn g a b, h => by
    simp only [ment, Bool.or_eq_false_iff] at h
    simp only [shft, shftL_noloc a h.1, shftL_noloc b h.2]
  | .agg c, h | .tup c, h => by
    simp only [ment] at h
    simp only [shft, shftL_noloc c h]
theorem shftL_noloc {n : Nat} : ∀ c : List SV, mentL (fun _ => true) c = false → shftL n c = c
  | [], _ => by simp only [shftL]
  | x :: r, h => by
    simp only [mentL, Bool.or_eq_false_iff] at h
    simp only [shftL, shft_noloc x h.1, shftL_noloc r h.2]
end

/-- An operation that looks at a part of the heap, and may only make what no loc names. -/
def Look (P : Program) (o : Oper) (s : SS) (v : SV) : Prop :=
  ∀ (cx : Cx) (w : World) (a : Act) (h : SH), Gam cx h w → Seen cx s.h w → TRep cx w s.t a.tmps → ∀ (next : Act → World → Prop) (Q : Exit → Act → World → Prop),
    (∀ cx' w' v', Grow0 cx w cx' w' → SRep cx' w' v v' → Gam cx' h w' → next (a.put o.dst v') w') → o.wp P a w next Q

theorem Still.look {P : Program} {o : Oper} {s : SS} {v : SV} (h : Still P o s v) : Look P o s v := fun cx w a hh hG hS ht next Q hn => by
  obtain ⟨v', hrun, hv⟩ := h cx w a hS ht
  unfold Oper.wp
  rw [hrun, Oper.upon_value]
  exact hn cx w v' (Grow.refl _ _ _) hv hG

theorem mentT_of {p : Nat → Bool} : ∀ {t : List (Nat × SV)} {i : Nat} {x : SV}, mentT p t = false → (i, x) ∈ t → ment p x = false
  | (k, y) :: r, i, x, h, hm => by
    simp only [mentT, Bool.or_eq_false_iff] at h
    rcases List.mem_cons.1 hm with e | hm
    · simp only [Prod.mk.injEq] at e
      obtain ⟨rfl, rfl⟩ := e
      exact h.1
    · exact mentT_of h.2 hm

/-- A call on an empty heap. -/
theorem look_call {P : Program} {o : Oper} {t : List (Nat × SV)} {v : SV} (h : OpOK0 P o ⟨t, []⟩ v ⟨t, []⟩) (ht : mentT (fun _ => true) t = false) (hv : ment (fun _ => true) v = false) (hm : SH) : Look P o ⟨t, hm⟩ v := fun cx w a hh hG _ hT next Q hn => by
  refine h (cxF cx w) w a (gamF hG) (fun i x hx => ⟨(hT i x hx).1, SRep.noloc (cx := cx) (cx' := cxF cx w) rfl x _ (mentT_of ht hx) (hT i x hx).2⟩) next Q fun cx' w' v' gr hr _ hG' => ?_
  obtain ⟨k1, k2⟩ := join_gam hG gr hG'
  refine hn _ w' v' k2 ?_ (by simpa [shftH] using k1)
  have := SRep.shft (cx := cx) v v' hr
  rwa [shft_noloc v hv] at this
end Go.Sx
