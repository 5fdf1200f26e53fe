/- The symbolic heap under the machine's writes: a new block, a block written, a row frozen, a row grown. -/
import Derived.Test.YtpnnnklahanecaaSxRep
namespace Go.Sx

def upd {α : Type} (f : Nat → α) (i : Nat) (x : α) : Nat → α := fun j => if j = i then x else f j
 @[simp] theorem upd_same {α : Type} (f : Nat → α) (i : Nat) (x : α) : upd f i x i = x := by simp [upd]
theorem upd_ne {α : Type} (f : Nat → α) {i j : Nat} (x : α) (h : j ≠ i) : upd f i x j = f j := by simp [upd, h]

/-- One more loc. -/
def Cx.ext (cx : Cx) (b ln cp : Nat) (nl : Bool) (rs : Nat) : Cx where
  n := cx.n + 1
  th := upd cx.th cx.n b
  ln := upd cx.ln cx.n ln
  cp := upd cx.cp cx.n cp
  nl := upd cx.nl cx.n nl
  rs := upd cx.rs cx.n rs
  fz := cx.fz
  fr := cx.fr

theorem hget_append_lt {h : SH} {o : SO} {l : Nat} (hl : l < h.length) : hget (h ++ [o]) l = hget h l := by
  simp [hget, List.getD_eq_getElem?_getD, List.getElem?_append_left hl]
theorem hget_append_eq {h : SH} {o : SO} : hget (h ++ [o]) h.length = o := by
  simp [hget, List.getD_eq_getElem?_getD]
theorem hget_ge {h : SH} {l : Nat} (hl : h.length ≤ l) : hget h l = .dead := by
  simp [hget, List.getD_eq_getElem?_getD, List.getElem?_eq_none hl]
theorem hget_set_eq {h : SH} {o : SO} {l : Nat} (hl : l < h.length) : hget (h.set l o) l = o := by
  simp [hget, List.getD_eq_getElem?_getD, hl]
theorem hget_set_ne {h : SH} {o : SO} {l m : Nat} (hm : m ≠ l) : hget (h.set l o) m = hget h m := by
  simp [hget, List.getD_eq_getElem?_getD, List.getElem?_set_ne (Ne.symm hm)]
theorem lt_of_hget {h : SH} {l : Nat} (hl : hget h l ≠ .dead) : l < h.length := by
  rcases Nat.lt_or_ge l h.length with h1 | h1
  · exact h1
  · exact absurd (hget_ge h1) hl

theorem lt_of_liv {cx : Cx} {h : SH} {l : Nat} (hl : liv cx h l) : l < h.length := by
  apply lt_of_hget; intro e; simp [liv, e] at hl

/-- Nothing but new blocks, or a block of one's own, is written: what ORep says of another loc lasts. -/
theorem ORep.keep {cx cx' : Cx} {h : SH} {w w' : World} (g : Grow0 cx w cx' w') {l : Nat} (hl : l < cx.n) (o : SO) (ho : hget h l = o)
    (hb : liv cx h l → w'.heap[cx.th l]? = w.heap[cx.th l]?) (hr : ORep cx w l o) : ORep cx' w' l o := by
  refine ORep.mono g hl rfl o (mentO_none o) ⟨fun xs t k e hn => hb ?_, fun t sz n f e hn => hb ?_, fun h1 h2 h3 => hb ?_⟩ hr
  · simp [liv, ho, e, hn]
  · simp [liv, ho, e, hn]
  · cases o with
    | dead => exact absurd rfl h3
    | rowi t k xs => exact absurd rfl (h1 xs t k)
    | row t sz n f => exact absurd rfl (h2 t sz n f)
    | _ => simp [liv, ho]

theorem frozen_push {w : World} {ob : Obj} (hob : ∃ c t, ob = .cells c t (0, 0)) (a : Addr) : ({ w with heap := w.heap.push ob } : World).frozen? a = w.frozen? a := by
  obtain ⟨c, t, rfl⟩ := hob
  simp only [World.frozen?, Array.getElem?_push]
  by_cases h : a.block = w.heap.size
  · rw [if_pos h, h]; simp
  · rw [if_neg h]

theorem Grow.ext (cx : Cx) (w : World) (ob : Obj) (b ln cp : Nat) (nl : Bool) (rs : Nat) (hfz : ∀ b, cx.hd b → b < w.heap.size) (hob : ∃ c t, ob = .cells c t (0, 0)) :
    Grow0 cx w (cx.ext b ln cp nl rs) { w with heap := w.heap.push ob } where
  fz := fun _ h => h
  same := fun b h => by
    have := hfz b h
    simp [Array.getElem?_push, Nat.ne_of_lt this]
  size := by simp
  loc := fun l hl _ => by
    have hne : l ≠ cx.n := Nat.ne_of_lt hl
    simp [Cx.ext, upd_ne, hne]; omega
  fr := rfl
  io := ⟨rfl, rfl, fun a => frozen_push hob a⟩

/-- A new block. -/
theorem Gam.push {cx : Cx} {h : SH} {w : World} (g : Gam cx h w) (so : SO) (ob : Obj) (ln cp : Nat) (nl : Bool) (rs : Nat) (hob : ∃ c t, ob = .cells c t (0, 0))
    (ho : ORep (cx.ext w.heap.size ln cp nl rs) { w with heap := w.heap.push ob } cx.n so) :
    Gam (cx.ext w.heap.size ln cp nl rs) (h ++ [so]) { w with heap := w.heap.push ob } ∧ Grow0 cx w (cx.ext w.heap.size ln cp nl rs) { w with heap := w.heap.push ob } := by
  have gr := Grow.ext cx w ob w.heap.size ln cp nl rs g.fzlt hob
  refine ⟨?_, gr⟩
  have hn := g.n
  have hlv : ∀ l, l ≠ cx.n → liv (cx.ext w.heap.size ln cp nl rs) (h ++ [so]) l → liv cx h l := by
    intro l hl hv
    have hlt := lt_of_liv hv
    simp only [List.length_append, List.length_cons, List.length_nil] at hlt
    have : l < h.length := by omega
    simpa [liv, hget_append_lt this, Cx.ext, upd_ne, hl] using hv
  refine ⟨by simp [Cx.ext, hn], fun l => ?_, fun l hv => ?_, fun l hv => ?_, fun l m hl hm e => ?_, fun b hb => ?_, g.dj⟩
  · rcases Nat.lt_trichotomy l h.length with hl | hl | hl
    · rw [hget_append_lt hl]
      refine ORep.keep (h := h) gr (hn ▸ hl) _ rfl (fun hv => ?_) (g.obj l)
      have := g.lt l hv
      simp [Array.getElem?_push, Nat.ne_of_lt this]
    · subst hl; rw [hget_append_eq, ← hn]; exact ho
    · rw [hget_ge (by simp; omega)]; trivial
  · by_cases hl : l = cx.n
    · subst hl; simp [Cx.ext]
    · have := g.lt l (hlv l hl hv)
      simp [Cx.ext, upd_ne, hl]; omega
  · by_cases hl : l = cx.n
    · subst hl; simp only [Cx.ext, upd_same]; intro hf; have := g.fzlt _ hf; omega
    · have := g.own l (hlv l hl hv)
      simpa [Cx.ext, upd_ne, hl, Cx.hd] using this
  · by_cases h1 : l = cx.n <;> by_cases h2 : m = cx.n
    · rw [h1, h2]
    · have := g.lt m (hlv m h2 hm); simp [Cx.ext, upd_ne, h1, h2] at e; omega
    · have := g.lt l (hlv l h1 hl); simp [Cx.ext, upd_ne, h1, h2] at e; omega
    · exact g.inj l m (hlv l h1 hl) (hlv m h2 hm) (by simpa [Cx.ext, upd_ne, h1, h2] using e)
  · have := g.fzlt b hb; simp; omega

/-- The block of a live loc is written. -/
theorem Gam.write {cx : Cx} {h : SH} {w w' : World} (g : Gam cx h w) {l : Nat} (hv : liv cx h l) (so : SO)
    (hso : liv cx (h.set l so) l ∨ so = .dead) (hsz : w'.heap.size = w.heap.size) (hot : ∀ b, b ≠ cx.th l → w'.heap[b]? = w.heap[b]?)
    (ho : ORep cx w' l so) (hio : Io w w') : Gam cx (h.set l so) w' ∧ Grow0 cx w cx w' := by
  have hlt := lt_of_liv hv
  have gr : Grow0 cx w cx w' := ⟨fun _ h => h, fun b hb => hot b (fun e => g.own l hv (e ▸ hb)), by omega, fun _ h _ => ⟨h, rfl, rfl, rfl, rfl, rfl⟩, rfl, hio⟩
  refine ⟨?_, gr⟩
  have hlv : ∀ m, liv cx (h.set l so) m → liv cx h m := by
    intro m hm
    by_cases e : m = l
    · subst e; exact hv
    · simpa [liv, hget_set_ne e] using hm
  refine ⟨by simp [g.n], fun m => ?_, fun m hm => hsz ▸ g.lt m (hlv m hm), fun m hm => g.own m (hlv m hm), fun a b ha hb e => g.inj a b (hlv a ha) (hlv b hb) e, fun b hb => hsz ▸ g.fzlt b hb, g.dj⟩
  by_cases e : m = l
  · subst e; rw [hget_set_eq hlt]; exact ho
  · rw [hget_set_ne e]
    rcases Nat.lt_or_ge m h.length with hm | hm
    · refine ORep.keep (h := h) gr (g.n ▸ hm) _ rfl (fun hvm => hot _ (fun e' => e (g.inj m l hvm hv e'))) (g.obj m)
    · rw [hget_ge hm]; trivial

/-- The world changes where no loc and no frozen block lies. -/
theorem Gam.world {cx : Cx} {h : SH} {w w' : World} (g : Gam cx h w) (hh : w'.heap = w.heap) (h1 : w'.os = w.os) (h2 : w'.output = w.output) : Gam cx h w' ∧ Grow0 cx w cx w' := by
  have gr : Grow0 cx w cx w' := ⟨fun _ h => h, fun b _ => by rw [hh], by rw [hh]; exact Nat.le_refl _, fun _ h _ => ⟨h, rfl, rfl, rfl, rfl, rfl⟩, rfl, .of_heap hh h1 h2⟩
  refine ⟨⟨g.n, fun m => ?_, fun m hm => by rw [hh]; exact g.lt m hm, g.own, g.inj, fun b hb => by rw [hh]; exact g.fzlt b hb, g.dj⟩, gr⟩
  rcases Nat.lt_or_ge m h.length with hm | hm
  · exact ORep.keep (h := h) gr (g.n ▸ hm) _ rfl (fun _ => by rw [hh]) (g.obj m)
  · rw [hget_ge hm]; trivial

/-- A loc is given up; its block is frozen from now on. -/
def Cx.freeze (cx : Cx) (b : Nat) : Cx := { cx with fz := fun x => cx.fz x ∨ x = b }

theorem Gam.kill {cx : Cx} {h : SH} {w : World} (g : Gam cx h w) {l : Nat} (hv : liv cx h l) :
    Gam (cx.freeze (cx.th l)) (h.set l .dead) w ∧ Grow0 cx w (cx.freeze (cx.th l)) w := by
  have hlt := lt_of_liv hv
  have gr : Grow0 cx w (cx.freeze (cx.th l)) w := ⟨fun _ h => .inl h, fun _ _ => rfl, Nat.le_refl _, fun _ h _ => ⟨h, rfl, rfl, rfl, rfl, rfl⟩, rfl, .refl _⟩
  refine ⟨?_, gr⟩
  have hlv : ∀ m, liv (cx.freeze (cx.th l)) (h.set l .dead) m → m ≠ l ∧ liv cx h m := by
    intro m hm
    by_cases e : m = l
    · subst e; simp [liv, hget_set_eq hlt] at hm
    · exact ⟨e, by simpa [liv, hget_set_ne e, Cx.freeze] using hm⟩
  refine ⟨by simp [g.n, Cx.freeze], fun m => ?_, fun m hm => g.lt m (hlv m hm).2, fun m hm hf => ?_, fun a b ha hb e => g.inj a b (hlv a ha).2 (hlv b hb).2 e, fun b hb => ?_, fun b hb hf => ?_⟩
  · by_cases e : m = l
    · subst e; rw [hget_set_eq hlt]; trivial
    · rw [hget_set_ne e]
      rcases Nat.lt_or_ge m h.length with hm | hm
      · exact ORep.keep (h := h) gr (g.n ▸ hm) _ rfl (fun _ => rfl) (g.obj m)
      · rw [hget_ge hm]; trivial
  · rcases hf with (hf | hf) | hf
    · exact g.own m (hlv m hm).2 (.inl hf)
    · exact (hlv m hm).1 (g.inj m l (hlv m hm).2 hv hf)
    · exact g.own m (hlv m hm).2 (.inr hf)
  · rcases hb with (hb | hb) | hb
    · exact g.fzlt b (.inl hb)
    · subst hb; exact g.lt l hv
    · exact g.fzlt b (.inr hb)
  · rcases hb with hb | hb
    · exact g.dj b hb hf
    · subst hb; exact g.own l hv (.inr hf)

/-- A nil row is given up. -/
theorem Gam.killNil {cx : Cx} {h : SH} {w : World} (g : Gam cx h w) {l : Nat} (hv : ¬ liv cx h l) : Gam cx (h.set l .dead) w := by
  have hlv : ∀ m, liv cx (h.set l .dead) m → liv cx h m := by
    intro m hm
    by_cases e : m = l
    · subst e
      rcases Nat.lt_or_ge m h.length with h1 | h1
      · simp [liv, hget_set_eq h1] at hm
      · simp [liv, hget_ge (h := h.set m .dead) (l := m) (by simpa using h1)] at hm
    · simpa [liv, hget_set_ne e] using hm
  refine ⟨by simp [g.n], fun m => ?_, fun m hm => g.lt m (hlv m hm), fun m hm => g.own m (hlv m hm), fun a b ha hb e => g.inj a b (hlv a ha) (hlv b hb) e, g.fzlt, g.dj⟩
  by_cases e : m = l
  · subst e
    rcases Nat.lt_or_ge m h.length with h1 | h1
    · rw [hget_set_eq h1]; trivial
    · rw [hget_ge (by simpa using h1)]; trivial
  · rw [hget_set_ne e]; exact g.obj m

end Go.Sx
