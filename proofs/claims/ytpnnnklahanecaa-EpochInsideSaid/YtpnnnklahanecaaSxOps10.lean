/- Operations, tenth part: make and append. -/
import Derived.Test.YtpnnnklahanecaaSxOps9
namespace Go.Sx

section
variable {P : Program} {A : Ann} {o : Oper} {s : SS} {Ω : Type} {k : SV → List Nat → SS → Option Ω} {out : Ω}

/-! ### forgetting what mentions a loc -/
theorem scrubL_length (l : Nat) : ∀ c : List SV, (scrubL l c).length = c.length
  | [] => rfl
  | _ :: r => by simp [scrubL, scrubL_length l r]

theorem scrubL_rep {cx : Cx} {w : World} (l : Nat) : ∀ {c : List SV} {c' : List Value}, SRepL cx w c c' → SRepL cx w (scrubL l c) c'
  | [], [], _ => by simp [scrubL, SRepL]
  | x :: r, v :: vs, h => by
    simp only [SRepL] at h
    simp only [scrubL, SRepL]
    refine ⟨?_, scrubL_rep l h.2⟩
    cases ment (Nat.beq l) x
    · exact h.1
    · simp [SRep]
  | [], _ :: _, h => by simp [SRepL] at h
  | _ :: _, [], h => by simp [SRepL] at h

theorem scrubL_ment (l : Nat) : ∀ c : List SV, mentL (Nat.beq l) (scrubL l c) = false
  | [] => by simp [scrubL, mentL]
  | x :: r => by
    simp only [scrubL, mentL, scrubL_ment l r, Bool.or_false]
    cases h : ment (Nat.beq l) x
    · simpa using h
    · simp [ment]

theorem scrubE_rep {cx : Cx} {w : World} (l : Nat) : ∀ {c : List (Value × SV)} {c' : List (Value × Value)}, SRepE cx w c c' → SRepE cx w (scrubE l c) c'
  | [], [], _ => by simp [scrubE, SRepE]
  | (q, x) :: r, (q', v) :: vs, h => by
    simp only [SRepE] at h
    simp only [scrubE, SRepE]
    refine ⟨h.1, ?_, scrubE_rep l h.2.2⟩
    cases ment (Nat.beq l) x
    · exact h.2.1
    · simp [SRep]
  | [], _ :: _, h => by simp [SRepE] at h
  | _ :: _, [], h => by simp [SRepE] at h

theorem scrubE_ment (l : Nat) : ∀ c : List (Value × SV), mentE (Nat.beq l) (scrubE l c) = false
  | [] => by simp [scrubE, mentE]
  | (_, x) :: r => by
    simp only [scrubE, mentE, scrubE_ment l r, Bool.or_false]
    cases h : ment (Nat.beq l) x
    · simpa using h
    · simp [ment]

theorem scrubO_rep {cx : Cx} {w : World} (l m : Nat) {o : SO} (h : ORep cx w m o) : ORep cx w m (scrubO l o) := by
  cases o with
  | cells t c => obtain ⟨t', c', h1, h2⟩ := h; exact ⟨t', c', h1, scrubL_rep l h2⟩
  | maps es => obtain ⟨e, c, h1, h2⟩ := h; exact ⟨e, c, h1, scrubE_rep l h2⟩
  | _ => exact h

theorem scrubO_ment (l : Nat) (o : SO) : mentO (Nat.beq l) (scrubO l o) = false := by
  cases o <;> simp [scrubO, mentO, scrubL_ment, scrubE_ment]

theorem scrubH_length (l : Nat) : ∀ h : SH, (scrubH l h).length = h.length
  | [] => rfl
  | _ :: r => by simp [scrubH, scrubH_length l r]

theorem scrubH_get (l : Nat) : ∀ (h : SH) (m : Nat), hget (scrubH l h) m = scrubO l (hget h m)
  | [], m => by simp [scrubH, hget, scrubO]
  | o :: r, 0 => by simp [scrubH, hget]
  | o :: r, m + 1 => by
    have := scrubH_get l r m
    simpa [scrubH, hget] using this

theorem scrub_liv {cx : Cx} {h : SH} {l m : Nat} : liv cx (scrubH l h) m ↔ liv cx h m := by
  unfold liv
  rw [scrubH_get]
  cases hget h m <;> simp [scrubO]

theorem scrubT_mem {l : Nat} : ∀ {t : List (Nat × SV)} {i : Nat} {x : SV}, (i, x) ∈ scrubT l t → (i, x) ∈ t ∧ ment (Nat.beq l) x = false
  | (k, v) :: r, i, x, h => by
    simp only [scrubT] at h
    cases hm : ment (Nat.beq l) v with
    | true =>
      simp only [hm, cond_true] at h
      obtain ⟨h1, h2⟩ := scrubT_mem h
      exact ⟨by simp [h1], h2⟩
    | false =>
      simp only [hm, cond_false, List.mem_cons, Prod.mk.injEq] at h
      rcases h with ⟨rfl, rfl⟩ | h
      · exact ⟨by simp, hm⟩
      · obtain ⟨h1, h2⟩ := scrubT_mem h
        exact ⟨by simp [h1], h2⟩

theorem scrubT_sub {l : Nat} : ∀ {t : List (Nat × SV)}, (scrubT l t).Sublist t
  | [] => .slnil
  | (k, v) :: r => by
    simp only [scrubT]
    cases hm : ment (Nat.beq l) v with
    | true => exact (scrubT_sub (t := r)).cons _
    | false => exact (scrubT_sub (t := r)).cons_cons _

theorem scrubTs_sub : ∀ {sc : List Nat} {t : List (Nat × SV)}, (scrubTs t sc).Sublist t
  | [], t => .refl t
  | l :: r, t => (scrubTs_sub (sc := r)).trans scrubT_sub

theorem TRep.scrub {cx cx' : Cx} {w w' : World} {l : Nat} (g : Grow (Nat.beq l) cx w cx' w') {t : List (Nat × SV)} {tm : Array Value} (h : TRep cx w t tm) : TRep cx' w' (scrubT l t) tm :=
  fun i x hx => by
    obtain ⟨h1, h2⟩ := scrubT_mem hx
    exact ⟨(h i x h1).1, SRep.mono g x _ h2 (h i x h1).2⟩

/-- A loc gets a new meaning; all that mentioned it has been forgotten. -/
theorem Gam.renew {cx cx' : Cx} {h : SH} {w w' : World} {l : Nat} {o' : SO} (g : Gam cx h w) (hl : l < h.length) (gr : Grow (Nat.beq l) cx w cx' w') (hn : cx'.n = cx.n)
    (hfz : ∀ b, cx'.fz b → cx.fz b)
    (hblk : ∀ m, m ≠ l → liv cx h m → w'.heap[cx.th m]? = w.heap[cx.th m]?)
    (hobj : ORep cx' w' l o')
    (hnew : liv cx' ((scrubH l h).set l o') l → cx'.th l < w'.heap.size ∧ ¬ cx.hd (cx'.th l) ∧ ∀ m, m ≠ l → liv cx h m → cx'.th l ≠ cx.th m) :
    Gam cx' ((scrubH l h).set l o') w' := by
  have hlt : l < (scrubH l h).length := by rw [scrubH_length]; exact hl
  have at' : ∀ m, m < cx.n → m ≠ l → cx'.th m = cx.th m ∧ cx'.nl m = cx.nl m := by
    intro m hm hne
    obtain ⟨_, h2, _, _, h5, _⟩ := gr.loc m hm (Bool.eq_false_iff.2 (fun e => hne (Nat.eq_of_beq_eq_true e).symm))
    exact ⟨h2, h5⟩
  have lv : ∀ m, m ≠ l → liv cx' ((scrubH l h).set l o') m → liv cx h m := by
    intro m hne hm
    have hlm : m < h.length := by have := lt_of_liv hm; rw [List.length_set, scrubH_length] at this; exact this
    have := (at' m (g.n ▸ hlm) hne).2
    rw [← scrub_liv (l := l)]
    simpa [liv, hget_set_ne hne, this] using hm
  refine ⟨by rw [hn, g.n, List.length_set, scrubH_length], fun m => ?_, fun m hm => ?_, fun m hm hf => ?_, fun a b ha hb e => ?_, fun b hb => Nat.lt_of_lt_of_le (g.fzlt b (hb.imp (hfz b) (fun h => gr.fr ▸ h))) gr.size, fun b hb hf => g.dj b (hfz b hb) (gr.fr ▸ hf)⟩
  · by_cases hne : m = l
    · subst hne; rw [hget_set_eq hlt]; exact hobj
    · rw [hget_set_ne hne, scrubH_get]
      rcases Nat.lt_or_ge m h.length with hm | hm
      · have hp : Nat.beq l m = false := Bool.eq_false_iff.2 (fun e => hne (Nat.eq_of_beq_eq_true e).symm)
        refine ORep.mono gr (g.n ▸ hm) hp _ (scrubO_ment l _) ?_ (scrubO_rep l m (g.obj m))
        have hb : liv cx h m → w'.heap[cx.th m]? = w.heap[cx.th m]? := hblk m hne
        refine ⟨fun xs t k e hnl => hb ?_, fun t sz n f e hnl => hb ?_, fun h1 h2 h3 => hb ?_⟩
        · rw [← scrub_liv (l := l)]; simp [liv, scrubH_get, e, hnl]
        · rw [← scrub_liv (l := l)]; simp [liv, scrubH_get, e, hnl]
        · rw [← scrub_liv (l := l)]
          cases hq : scrubO l (hget h m) with
          | dead => exact absurd hq h3
          | rowi t k xs => exact absurd hq (h1 xs t k)
          | row t sz n f => exact absurd hq (h2 t sz n f)
          | _ => simp [liv, scrubH_get, hq]
      · rw [hget_ge hm]; simp [scrubO, ORep]
  · by_cases hne : m = l
    · subst hne; exact (hnew hm).1
    · have h1 := lv m hne hm
      rw [(at' m (g.n ▸ lt_of_liv h1) hne).1]
      exact Nat.lt_of_lt_of_le (g.lt m h1) gr.size
  · by_cases hne : m = l
    · subst hne; exact (hnew hm).2.1 (hf.imp (hfz _) (fun h => gr.fr ▸ h))
    · have h1 := lv m hne hm
      rw [(at' m (g.n ▸ lt_of_liv h1) hne).1] at hf
      exact g.own m h1 (hf.imp (hfz _) (fun h => gr.fr ▸ h))
  · by_cases h1 : a = l <;> by_cases h2 : b = l
    · rw [h1, h2]
    · subst h1
      have h3 := lv b h2 hb
      rw [(at' b (g.n ▸ lt_of_liv h3) h2).1] at e
      exact absurd e ((hnew ha).2.2 b h2 h3)
    · subst h2
      have h3 := lv a h1 ha
      rw [(at' a (g.n ▸ lt_of_liv h3) h1).1] at e
      exact absurd e.symm ((hnew hb).2.2 a h1 h3)
    · have h3 := lv a h1 ha
      have h4 := lv b h2 hb
      rw [(at' a (g.n ▸ lt_of_liv h3) h1).1, (at' b (g.n ▸ lt_of_liv h4) h2).1] at e
      exact g.inj a b h3 h4 e

/-- An object is given up (its block is nobody's from now on). -/
theorem Gam.drop {cx : Cx} {h : SH} {w : World} (g : Gam cx h w) (l : Nat) : Gam cx (h.set l .dead) w := by
  have hlv : ∀ m, liv cx (h.set l .dead) m → m ≠ l ∧ liv cx h m := by
    intro m hm
    by_cases e : m = l
    · subst e
      rcases Nat.lt_or_ge m h.length with h1 | h1
      · simp [liv, hget_set_eq h1] at hm
      · simp [liv, hget_ge (h := h.set m .dead) (l := m) (by simpa using h1)] at hm
    · exact ⟨e, by simpa [liv, hget_set_ne e] using hm⟩
  refine ⟨by simp [g.n], fun m => ?_, fun m hm => g.lt m (hlv m hm).2, fun m hm => g.own m (hlv m hm).2, fun a b ha hb e => g.inj a b (hlv a ha).2 (hlv b hb).2 e, g.fzlt, g.dj⟩
  by_cases e : m = l
  · subst e
    rcases Nat.lt_or_ge m h.length with h1 | h1
    · rw [hget_set_eq h1]; trivial
    · rw [hget_ge (by simpa using h1)]; trivial
  · rw [hget_set_ne e]; exact g.obj m

/-- One more loc, for a block that is nobody's. -/
theorem Gam.take {cx : Cx} {h : SH} {w : World} (g : Gam cx h w) (so : SO) (b ln cp : Nat) (nl : Bool) (rs : Nat)
    (ho : ORep (cx.ext b ln cp nl rs) w cx.n so) (hb : liv (cx.ext b ln cp nl rs) (h ++ [so]) cx.n → b < w.heap.size ∧ ¬ cx.hd b ∧ ∀ m, liv cx h m → b ≠ cx.th m) :
    Gam (cx.ext b ln cp nl rs) (h ++ [so]) w ∧ Grow0 cx w (cx.ext b ln cp nl rs) w := by
  have gr : Grow0 cx w (cx.ext b ln cp nl rs) w := ⟨fun _ h => h, fun _ _ => rfl, Nat.le_refl _, fun l hl _ => by
    have hne : l ≠ cx.n := Nat.ne_of_lt hl
    simp [Cx.ext, upd_ne, hne]; omega, rfl, .refl _⟩
  refine ⟨?_, gr⟩
  have hn := g.n
  have hlv : ∀ l, l ≠ cx.n → liv (cx.ext b ln cp nl rs) (h ++ [so]) l → liv cx h l := by
    intro l hl hv
    have hlt := lt_of_liv hv
    simp only [List.length_append, List.length_cons, List.length_nil] at hlt
    have : l < h.length := by omega
    simpa [liv, hget_append_lt this, Cx.ext, upd_ne, hl] using hv
  refine ⟨by simp [Cx.ext, hn], fun l => ?_, fun l hv => ?_, fun l hv => ?_, fun l m hl hm e => ?_, fun b hb => g.fzlt b hb, g.dj⟩
  · rcases Nat.lt_trichotomy l h.length with hl | hl | hl
    · rw [hget_append_lt hl]
      exact ORep.keep (h := h) gr (hn ▸ hl) _ rfl (fun _ => rfl) (g.obj l)
    · subst hl; rw [hget_append_eq, ← hn]; exact ho
    · rw [hget_ge (by simp; omega)]; trivial
  · by_cases hl : l = cx.n
    · subst hl; simpa [Cx.ext] using (hb hv).1
    · have := g.lt l (hlv l hl hv)
      simpa [Cx.ext, upd_ne, hl] using this
  · by_cases hl : l = cx.n
    · subst hl; simpa [Cx.ext, Cx.hd] using (hb hv).2.1
    · have := g.own l (hlv l hl hv)
      simpa [Cx.ext, upd_ne, hl, Cx.hd] using this
  · by_cases h1 : l = cx.n <;> by_cases h2 : m = cx.n
    · rw [h1, h2]
    · subst h1; simp [Cx.ext, upd_ne, h2] at e; exact absurd e ((hb hl).2.2 m (hlv m h2 hm))
    · subst h2; simp [Cx.ext, upd_ne, h1] at e; exact absurd e.symm ((hb hm).2.2 l (hlv l h1 hl))
    · exact g.inj l m (hlv l h1 hl) (hlv m h2 hm) (by simpa [Cx.ext, upd_ne, h1, h2] using e)
end
end Go.Sx
