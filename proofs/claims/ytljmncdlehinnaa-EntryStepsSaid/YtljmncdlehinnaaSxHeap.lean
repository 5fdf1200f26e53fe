/- What a symbolic value and a symbolic heap say of the machine's memory; that this lasts while memory grows. -/
import Derived.Test.YtljmncdlehinnaaSxRun
set_option linter.unusedVariables false
set_option linter.unusedSimpArgs false
namespace Go.Sx

structure Cx where
  n : Nat
  th : Nat → Nat
  ln : Nat → Nat
  cp : Nat → Nat
  nl : Nat → Bool
  rs : Nat → Nat
  fz : Nat → Prop
  fr : Nat → Prop

/-- Blocks that stay as they are: data, and what lies beyond (the frame). -/
def Cx.hd (cx : Cx) (b : Nat) : Prop := cx.fz b ∨ cx.fr b

/-- May this value stand in a cell? -/
def cellV : Value → Prop
  | .agg _ | .tuple _ => False
  | _ => True

def ad (b o : Nat) : Addr := ⟨b, o, none⟩

def DRep (fz : Nat → Prop) (w : World) : DV → Value → Prop
  | .v x, u => u = x ∧ cellV x
  | .ints k l, u => ∃ a c, u = .slice a l.length c ∧ l.length ≤ c ∧ (l ≠ [] → ∃ b o, a = some (ad b o) ∧ fz b ∧ ∀ i, i < l.length → w.cell? (ad b (o + i)) = some (.int k (l.getD i 0)))
  | .sl sz n f, u => ∃ a c, u = .slice a n c ∧ n ≤ c ∧ (n ≠ 0 → ∃ b o, a = some (ad b o) ∧ fz b ∧ ∀ i, i < n → ∀ j, j < sz → ∃ x, w.cell? (ad b (o + (i * sz + j))) = some x ∧ DRep fz w (f i j) x)

 mutual
def SRep (cx : Cx) (w : World) : SV → Value → Prop
  | .d x, u => DRep cx.fz w x u
  | .ptr l o, u => l < cx.n ∧ u = .pointer (some (ad (cx.th l) o))
  | .pe l i o, u => l < cx.n ∧ u = .pointer (some (ad (cx.th l) (i * cx.rs l + o))) ∧ i < cx.ln l ∧ cx.nl l = false
  | .rp sz f o, u => ∃ b o', u = .pointer (some (ad b (o' + o))) ∧ cx.fz b ∧ ∀ j, j < sz → ∃ x, w.cell? (ad b (o' + j)) = some x ∧ DRep cx.fz w (f j) x
  | .own l, u => l < cx.n ∧ u = .slice (bif cx.nl l then none else some (ad (cx.th l) 0)) (cx.ln l) (cx.cp l)
  | .cs l o _ n c, u => l < cx.n ∧ u = .slice (some (ad (cx.th l) o)) n c
  | .mp l, u => l < cx.n ∧ u = .map (some (cx.th l))
  | .fn g a b, u => ∃ a' b', u = .func g ⟨a'⟩ ⟨b'⟩ ∧ SRepL cx w a a' ∧ SRepL cx w b b'
  | .agg c, u => ∃ c', u = .agg ⟨c'⟩ ∧ SRepL cx w c c'
  | .tup c, u => ∃ c', u = .tuple ⟨c'⟩ ∧ SRepL cx w c c'
  | .top, _ => True
def SRepL (cx : Cx) (w : World) : List SV → List Value → Prop
  | [], [] => True
  | x :: r, v :: vs => SRep cx w x v ∧ SRepL cx w r vs
  | _, _ => False
end

def vals (k : IntKind) (xs : List Int) : List Value := xs.map (.int k)

/-- Entries of a map, without their stamps. -/
def ents (es : Array MapEntry) : List (Value × Value) := es.toList.map fun e => (e.key, e.val)

def SRepE (cx : Cx) (w : World) : List (Value × SV) → List (Value × Value) → Prop
  | [], [] => True
  | (q, x) :: r, (q', v) :: vs => q = q' ∧ SRep cx w x v ∧ SRepE cx w r vs
  | _, _ => False

/-- The object at loc l. -/
def ORep (cx : Cx) (w : World) (l : Nat) : SO → Prop
  | .dead => True
  | .cells _ c => ∃ t c', w.heap[cx.th l]? = some (.cells ⟨c'⟩ t (0, 0)) ∧ SRepL cx w c c'
  | .rowi _ k xs => cx.ln l = xs.length ∧ cx.rs l = 1 ∧ xs.length ≤ cx.cp l ∧ (cx.nl l = true → cx.cp l = 0) ∧
      (cx.nl l = false → ∃ t c', w.heap[cx.th l]? = some (.cells c' t (0, 0)) ∧ c'.size = cx.cp l ∧ ∀ i, i < xs.length → c'[i]? = some (.int k (xs.getD i 0)))
  | .row _ sz n f => cx.ln l = n ∧ cx.rs l = sz ∧ n ≤ cx.cp l ∧ (cx.nl l = true → cx.cp l = 0) ∧
      (cx.nl l = false → ∃ t c', w.heap[cx.th l]? = some (.cells c' t (0, 0)) ∧ c'.size = cx.cp l * sz ∧ ∀ i, i < n → ∀ j, j < sz → ∃ x, c'[i * sz + j]? = some x ∧ DRep cx.fz w (f i j) x)
  | .mapi k es => ∃ e c, w.heap[cx.th l]? = some (.map e c) ∧ ents e = es.map fun p => (p.1, .int k p.2)
  | .mapb es => ∃ e c, w.heap[cx.th l]? = some (.map e c) ∧ ents e = es.map fun p => (p.1, .bool p.2)
  | .maps es => ∃ e c, w.heap[cx.th l]? = some (.map e c) ∧ SRepE cx w es (ents e)

/-- Does the loc hold a block of its own? -/
def liv (cx : Cx) (h : SH) (l : Nat) : Prop :=
  match hget h l with
  | .dead => False
  | .rowi .. | .row .. => cx.nl l = false
  | _ => True

structure Gam (cx : Cx) (h : SH) (w : World) : Prop where
  n : cx.n = h.length
  obj : ∀ l, ORep cx w l (hget h l)
  lt : ∀ l, liv cx h l → cx.th l < w.heap.size
  own : ∀ l, liv cx h l → ¬ cx.hd (cx.th l)
  inj : ∀ l m, liv cx h l → liv cx h m → cx.th l = cx.th m → l = m
  fzlt : ∀ b, cx.hd b → b < w.heap.size
  dj : ∀ b, cx.fz b → ¬ cx.fr b

def TRep (cx : Cx) (w : World) (t : List (Nat × SV)) (tm : Array Value) : Prop :=
  ∀ i x, (i, x) ∈ t → i < tm.size ∧ SRep cx w x (tm.getD i undef)

/-- What no operation here touches: the machine's outside, and which cells are frozen by the machine. -/
structure Io (w w' : World) : Prop where
  os : w'.os = w.os
  out : w'.output = w.output
  frz : ∀ a, w'.frozen? a = w.frozen? a

theorem Io.refl (w : World) : Io w w := ⟨rfl, rfl, fun _ => rfl⟩
theorem Io.trans {a b c : World} (h : Io a b) (h' : Io b c) : Io a c := ⟨h'.os.trans h.os, h'.out.trans h.out, fun x => (h'.frz x).trans (h.frz x)⟩
theorem Io.of_heap {w w' : World} (h : w'.heap = w.heap) (h1 : w'.os = w.os) (h2 : w'.output = w.output) : Io w w' := ⟨h1, h2, fun a => by simp only [World.frozen?, h]⟩

/-- Memory has grown; what was frozen is as it was; the locs but those of p mean what they meant. -/
structure Grow (p : Nat → Bool) (cx : Cx) (w : World) (cx' : Cx) (w' : World) : Prop where
  fz : ∀ b, cx.fz b → cx'.fz b
  same : ∀ b, cx.hd b → w'.heap[b]? = w.heap[b]?
  size : w.heap.size ≤ w'.heap.size
  loc : ∀ l, l < cx.n → p l = false → l < cx'.n ∧ cx'.th l = cx.th l ∧ cx'.ln l = cx.ln l ∧ cx'.cp l = cx.cp l ∧ cx'.nl l = cx.nl l ∧ cx'.rs l = cx.rs l
  fr : cx'.fr = cx.fr
  io : Io w w'

theorem Grow.samef {p : Nat → Bool} {cx cx' : Cx} {w w' : World} (g : Grow p cx w cx' w') (b : Nat) (h : cx.fz b) : w'.heap[b]? = w.heap[b]? := g.same b (.inl h)
theorem Grow.hd {p : Nat → Bool} {cx cx' : Cx} {w w' : World} (g : Grow p cx w cx' w') (b : Nat) (h : cx.hd b) : cx'.hd b := h.imp (g.fz b) (fun h => g.fr ▸ h)

theorem cell_same {w w' : World} {b o : Nat} (h : w'.heap[b]? = w.heap[b]?) : w'.cell? (ad b o) = w.cell? (ad b o) := by
  simp only [World.cell?, ad, h]

theorem DRep.mono {fz fz' : Nat → Prop} {w w' : World} (hf : ∀ b, fz b → fz' b) (hs : ∀ b, fz b → w'.heap[b]? = w.heap[b]?) :
    ∀ (x : DV) (u : Value), DRep fz w x u → DRep fz' w' x u
  | .v x, u, h => h
  | .ints k l, u, ⟨a, c, e, hc, h⟩ => ⟨a, c, e, hc, fun hn => by
      obtain ⟨b, o, ea, hb, hi⟩ := h hn
      exact ⟨b, o, ea, hf b hb, fun i hl => by rw [cell_same (hs b hb)]; exact hi i hl⟩⟩
  | .sl sz n f, u, ⟨a, c, e, hc, h⟩ => ⟨a, c, e, hc, fun hn => by
      obtain ⟨b, o, ea, hb, hi⟩ := h hn
      refine ⟨b, o, ea, hf b hb, fun i hl j hj => ?_⟩
      obtain ⟨x, hx, hr⟩ := hi i hl j hj
      exact ⟨x, by rw [cell_same (hs b hb)]; exact hx, DRep.mono hf hs (f i j) x hr⟩⟩

theorem SRepL.length {cx : Cx} {w : World} : ∀ {c : List SV} {c' : List Value}, SRepL cx w c c' → c.length = c'.length
  | [], [], _ => rfl
  | _ :: _, _ :: _, h => by simp only [SRepL] at h; simp [SRepL.length h.2]
  | [], _ :: _, h => by simp [SRepL] at h
  | _ :: _, [], h => by simp [SRepL] at h

 mutual
theorem SRep.mono {p : Nat → Bool} {cx cx' : Cx} {w w' : World} (g : Grow p cx w cx' w') : ∀ (x : SV) (u : Value), ment p x = false → SRep cx w x u → SRep cx' w' x u
  | .d x, u, _, h => by simp only [SRep] at h ⊢; exact DRep.mono g.fz g.samef x u h
  | .ptr l o, u, hm, h => by
      simp only [SRep, ment] at h hm ⊢
      obtain ⟨h1, h2, _⟩ := g.loc l h.1 hm
      exact ⟨h1, by rw [h2]; exact h.2⟩
  | .pe l i o, u, hm, h => by
      simp only [SRep, ment] at h hm ⊢
      obtain ⟨h1, h2, h3, h4, h5, h6⟩ := g.loc l h.1 hm
      rw [h2, h3, h5, h6]; exact ⟨h1, h.2⟩
  | .rp sz f o, u, _, h => by
      simp only [SRep] at h ⊢
      obtain ⟨b, o', e, hb, hj⟩ := h
      refine ⟨b, o', e, g.fz b hb, fun j hl => ?_⟩
      obtain ⟨x, hx, hr⟩ := hj j hl
      exact ⟨x, by rw [cell_same (g.samef b hb)]; exact hx, DRep.mono g.fz g.samef _ _ hr⟩
  | .own l, u, hm, h => by
      simp only [SRep, ment] at h hm ⊢
      obtain ⟨h1, h2, h3, h4, h5, h6⟩ := g.loc l h.1 hm
      rw [h2, h3, h4, h5]; exact ⟨h1, h.2⟩
  | .cs l o sz n c, u, hm, h => by
      simp only [SRep, ment] at h hm ⊢
      obtain ⟨h1, h2, _⟩ := g.loc l h.1 hm
      rw [h2]; exact ⟨h1, h.2⟩
  | .mp l, u, hm, h => by
      simp only [SRep, ment] at h hm ⊢
      obtain ⟨h1, h2, _⟩ := g.loc l h.1 hm
      rw [h2]; exact ⟨h1, h.2⟩
  | .fn q a b, u, hm, h => by
      simp only [SRep, ment, Bool.or_eq_false_iff] at h hm ⊢
      obtain ⟨a', b', e, ha, hb⟩ := h
      exact ⟨a', b', e, SRepL.mono g a a' hm.1 ha, SRepL.mono g b b' hm.2 hb⟩
  | .agg c, u, hm, h => by
      simp only [SRep, ment] at h hm ⊢
      obtain ⟨c', e, hc⟩ := h
      exact ⟨c', e, SRepL.mono g c c' hm hc⟩
  | .tup c, u, hm, h => by
      simp only [SRep, ment] at h hm ⊢
      obtain ⟨c', e, hc⟩ := h
      exact ⟨c', e, SRepL.mono g c c' hm hc⟩
  | .top, u, _, _ => by simp only [SRep]
theorem SRepL.mono {p : Nat → Bool} {cx cx' : Cx} {w w' : World} (g : Grow p cx w cx' w') : ∀ (c : List SV) (c' : List Value), mentL p c = false → SRepL cx w c c' → SRepL cx' w' c c'
  | [], [], _, _ => by simp only [SRepL]
  | x :: r, v :: vs, hm, h => by
      simp only [SRepL, mentL, Bool.or_eq_false_iff] at h hm ⊢
      exact ⟨SRep.mono g x v hm.1 h.1, SRepL.mono g r vs hm.2 h.2⟩
  | [], _ :: _, _, h => by simp [SRepL] at h
  | _ :: _, [], _, h => by simp [SRepL] at h
end

 mutual
theorem ment_none : ∀ x : SV, ment (fun _ => false) x = false
  | .d _ | .ptr _ _ | .pe _ _ _ | .rp _ _ _ | .own _ | .cs _ _ _ _ _ | .mp _ | .top => by simp [ment]
  | .fn _ a b => by simp [ment, mentL_none a, mentL_none b]
  | .agg c => by simp [ment, mentL_none c]
  | .tup c => by simp [ment, mentL_none c]
theorem mentL_none : ∀ c : List SV, mentL (fun _ => false) c = false
  | [] => by simp [mentL]
  | x :: r => by simp [mentL, ment_none x, mentL_none r]
end

abbrev Grow0 := Grow (fun _ => false)

theorem SRep.grow {cx cx' : Cx} {w w' : World} (g : Grow0 cx w cx' w') {x : SV} {u : Value} (h : SRep cx w x u) : SRep cx' w' x u := SRep.mono g x u (ment_none x) h
theorem SRepL.grow {cx cx' : Cx} {w w' : World} (g : Grow0 cx w cx' w') {c : List SV} {c' : List Value} (h : SRepL cx w c c') : SRepL cx' w' c c' := SRepL.mono g c c' (mentL_none c) h

theorem SRepE.mono {p : Nat → Bool} {cx cx' : Cx} {w w' : World} (g : Grow p cx w cx' w') : ∀ (c : List (Value × SV)) (c' : List (Value × Value)), mentE p c = false → SRepE cx w c c' → SRepE cx' w' c c'
  | [], [], _, _ => by simp only [SRepE]
  | (q, x) :: r, (q', v) :: vs, hm, h => by
      simp only [SRepE, mentE, Bool.or_eq_false_iff] at h hm ⊢
      exact ⟨h.1, SRep.mono g x v hm.1 h.2.1, SRepE.mono g r vs hm.2 h.2.2⟩
  | [], _ :: _, _, h => by simp [SRepE] at h
  | _ :: _, [], _, h => by simp [SRepE] at h

theorem Grow.refl (p : Nat → Bool) (cx : Cx) (w : World) : Grow p cx w cx w := ⟨fun _ h => h, fun _ _ => rfl, Nat.le_refl _, fun _ h _ => ⟨h, rfl, rfl, rfl, rfl, rfl⟩, rfl, Io.refl _⟩

theorem Grow.trans {p : Nat → Bool} {cx cx1 cx2 : Cx} {w w1 w2 : World} (a : Grow p cx w cx1 w1) (b : Grow p cx1 w1 cx2 w2) : Grow p cx w cx2 w2 where
  fz := fun x h => b.fz x (a.fz x h)
  same := fun x h => by rw [b.same x (a.hd x h), a.same x h]
  fr := b.fr.trans a.fr
  io := a.io.trans b.io
  size := Nat.le_trans a.size b.size
  loc := fun l hl hp => by
    obtain ⟨h1, h2, h3, h4, h5, h6⟩ := a.loc l hl hp
    obtain ⟨k1, k2, k3, k4, k5, k6⟩ := b.loc l h1 hp
    exact ⟨k1, by rw [k2, h2], by rw [k3, h3], by rw [k4, h4], by rw [k5, h5], by rw [k6, h6]⟩

/-- An object lasts where its own block is as it was. -/
theorem ORep.mono {p : Nat → Bool} {cx cx' : Cx} {w w' : World} (g : Grow p cx w cx' w') {l : Nat} (hl : l < cx.n) (hp : p l = false) (o : SO) (hm : mentO p o = false)
    (hb : (∀ xs t k, o = .rowi t k xs → cx.nl l = false → w'.heap[cx.th l]? = w.heap[cx.th l]?) ∧ (∀ t sz n f, o = .row t sz n f → cx.nl l = false → w'.heap[cx.th l]? = w.heap[cx.th l]?) ∧
      ((∀ xs t k, o ≠ .rowi t k xs) → (∀ t sz n f, o ≠ .row t sz n f) → o ≠ .dead → w'.heap[cx.th l]? = w.heap[cx.th l]?))
    (h : ORep cx w l o) : ORep cx' w' l o := by
  obtain ⟨h1, h2, h3, h4, h5, h6⟩ := g.loc l hl hp
  cases o with
  | dead => exact h
  | cells t c =>
    have e := hb.2.2 (by simp) (by simp) (by simp)
    obtain ⟨t', c', hc, hr⟩ := h
    exact ⟨t', c', by rw [h2, e]; exact hc, SRepL.mono g c c' hm hr⟩
  | rowi t k xs =>
    have e := hb.1 xs t k rfl
    simp only [ORep, h2, h3, h4, h5, h6] at h ⊢
    refine ⟨h.1, h.2.1, h.2.2.1, h.2.2.2.1, fun hn => ?_⟩
    rw [e hn]; exact h.2.2.2.2 hn
  | row t sz n f =>
    have e := hb.2.1 t sz n f rfl
    simp only [ORep, h2, h3, h4, h5, h6] at h ⊢
    refine ⟨h.1, h.2.1, h.2.2.1, h.2.2.2.1, fun hn => ?_⟩
    rw [e hn]
    obtain ⟨t', c', hc, hs, hi⟩ := h.2.2.2.2 hn
    refine ⟨t', c', hc, hs, fun i hi' j hj => ?_⟩
    obtain ⟨x, hx, hr⟩ := hi i hi' j hj
    exact ⟨x, hx, DRep.mono g.fz g.samef _ _ hr⟩
  | mapi k es =>
    have e := hb.2.2 (by simp) (by simp) (by simp)
    simp only [ORep, h2, e] at h ⊢; exact h
  | mapb es =>
    have e := hb.2.2 (by simp) (by simp) (by simp)
    simp only [ORep, h2, e] at h ⊢; exact h
  | maps es =>
    have e := hb.2.2 (by simp) (by simp) (by simp)
    obtain ⟨e', c, hc, hr⟩ := h
    exact ⟨e', c, by rw [h2, e]; exact hc, SRepE.mono g es _ hm hr⟩

theorem mentE_none : ∀ c : List (Value × SV), mentE (fun _ => false) c = false
  | [] => by simp [mentE]
  | (_, x) :: r => by simp [mentE, ment_none x, mentE_none r]
theorem mentO_none (o : SO) : mentO (fun _ => false) o = false := by cases o <;> simp [mentO, mentL_none, mentE_none]

theorem TRep.mono {p : Nat → Bool} {cx cx' : Cx} {w w' : World} (g : Grow p cx w cx' w') {t : List (Nat × SV)} {tm : Array Value} (hm : ∀ i x, (i, x) ∈ t → ment p x = false) (h : TRep cx w t tm) : TRep cx' w' t tm :=
  fun i x hx => ⟨(h i x hx).1, SRep.mono g x _ (hm i x hx) (h i x hx).2⟩
theorem TRep.grow {cx cx' : Cx} {w w' : World} (g : Grow0 cx w cx' w') {t : List (Nat × SV)} {tm : Array Value} (h : TRep cx w t tm) : TRep cx' w' t tm :=
  TRep.mono g (fun _ x _ => ment_none x) h

end Go.Sx

/- The symbolic heap under the machine's writes: a new block, a block written, a row frozen, a row grown. -/
namespace Go.Sx

def upd {α : Type} (f : Nat → α) (i : Nat) (x : α) : Nat → α := fun j => if j = i then x else f j
 @[simp] theorem upd_same {α : Type} (f : Nat → α) (i : Nat) (x : α) : upd f i x i = x := by simp [upd]
theorem upd_ne {α : Type} (f : Nat → α) {i j : Nat} (x : α) (h : j ≠ i) : upd f i x j = f j := by simp [upd, h]

/-- One more loc. -/
def Cx.ext (cx : Cx) (b ln cp : Nat) (nl : Bool) (rs : Nat) : Cx where
  n := cx.n + 1
  th := upd cx.th cx.n b
  ln := upd cx.ln cx.n ln
  cp := upd cx.cp cx.n cp
  nl := upd cx.nl cx.n nl
  rs := upd cx.rs cx.n rs
  fz := cx.fz
  fr := cx.fr

theorem hget_append_lt {h : SH} {o : SO} {l : Nat} (hl : l < h.length) : hget (h ++ [o]) l = hget h l := by
  simp [hget, List.getD_eq_getElem?_getD, List.getElem?_append_left hl]
theorem hget_append_eq {h : SH} {o : SO} : hget (h ++ [o]) h.length = o := by
  simp [hget, List.getD_eq_getElem?_getD]
theorem hget_ge {h : SH} {l : Nat} (hl : h.length ≤ l) : hget h l = .dead := by
  simp [hget, List.getD_eq_getElem?_getD, List.getElem?_eq_none hl]
theorem hget_set_eq {h : SH} {o : SO} {l : Nat} (hl : l < h.length) : hget (h.set l o) l = o := by
  simp [hget, List.getD_eq_getElem?_getD, hl]
theorem hget_set_ne {h : SH} {o : SO} {l m : Nat} (hm : m ≠ l) : hget (h.set l o) m = hget h m := by
  simp [hget, List.getD_eq_getElem?_getD, List.getElem?_set_ne (Ne.symm hm)]
theorem lt_of_hget {h : SH} {l : Nat} (hl : hget h l ≠ .dead) : l < h.length := by
  rcases Nat.lt_or_ge l h.length with h1 | h1
  · exact h1
  · exact absurd (hget_ge h1) hl

theorem lt_of_liv {cx : Cx} {h : SH} {l : Nat} (hl : liv cx h l) : l < h.length := by
  apply lt_of_hget; intro e; simp [liv, e] at hl

/-- Nothing but new blocks, or a block of one's own, is written: what ORep says of another loc lasts. -/
theorem ORep.keep {cx cx' : Cx} {h : SH} {w w' : World} (g : Grow0 cx w cx' w') {l : Nat} (hl : l < cx.n) (o : SO) (ho : hget h l = o)
    (hb : liv cx h l → w'.heap[cx.th l]? = w.heap[cx.th l]?) (hr : ORep cx w l o) : ORep cx' w' l o := by
  refine ORep.mono g hl rfl o (mentO_none o) ⟨fun xs t k e hn => hb ?_, fun t sz n f e hn => hb ?_, fun h1 h2 h3 => hb ?_⟩ hr
  · simp [liv, ho, e, hn]
  · simp [liv, ho, e, hn]
  · cases o with
    | dead => exact absurd rfl h3
    | rowi t k xs => exact absurd rfl (h1 xs t k)
    | row t sz n f => exact absurd rfl (h2 t sz n f)
    | _ => simp [liv, ho]

theorem frozen_push {w : World} {ob : Obj} (hob : ∃ c t, ob = .cells c t (0, 0)) (a : Addr) : ({ w with heap := w.heap.push ob } : World).frozen? a = w.frozen? a := by
  obtain ⟨c, t, rfl⟩ := hob
  simp only [World.frozen?, Array.getElem?_push]
  by_cases h : a.block = w.heap.size
  · rw [if_pos h, h]; simp
  · rw [if_neg h]

theorem Grow.ext (cx : Cx) (w : World) (ob : Obj) (b ln cp : Nat) (nl : Bool) (rs : Nat) (hfz : ∀ b, cx.hd b → b < w.heap.size) (hob : ∃ c t, ob = .cells c t (0, 0)) :
    Grow0 cx w (cx.ext b ln cp nl rs) { w with heap := w.heap.push ob } where
  fz := fun _ h => h
  same := fun b h => by
    have := hfz b h
    simp [Array.getElem?_push, Nat.ne_of_lt this]
  size := by simp
  loc := fun l hl _ => by
    have hne : l ≠ cx.n := Nat.ne_of_lt hl
    simp [Cx.ext, upd_ne, hne]; omega
  fr := rfl
  io := ⟨rfl, rfl, fun a => frozen_push hob a⟩

/-- A new block. -/
theorem Gam.push {cx : Cx} {h : SH} {w : World} (g : Gam cx h w) (so : SO) (ob : Obj) (ln cp : Nat) (nl : Bool) (rs : Nat) (hob : ∃ c t, ob = .cells c t (0, 0))
    (ho : ORep (cx.ext w.heap.size ln cp nl rs) { w with heap := w.heap.push ob } cx.n so) :
    Gam (cx.ext w.heap.size ln cp nl rs) (h ++ [so]) { w with heap := w.heap.push ob } ∧ Grow0 cx w (cx.ext w.heap.size ln cp nl rs) { w with heap := w.heap.push ob } := by
  have gr := Grow.ext cx w ob w.heap.size ln cp nl rs g.fzlt hob
  refine ⟨?_, gr⟩
  have hn := g.n
  have hlv : ∀ l, l ≠ cx.n → liv (cx.ext w.heap.size ln cp nl rs) (h ++ [so]) l → liv cx h l := by
    intro l hl hv
    have hlt := lt_of_liv hv
    simp only [List.length_append, List.length_cons, List.length_nil] at hlt
    have : l < h.length := by omega
    simpa [liv, hget_append_lt this, Cx.ext, upd_ne, hl] using hv
  refine ⟨by simp [Cx.ext, hn], fun l => ?_, fun l hv => ?_, fun l hv => ?_, fun l m hl hm e => ?_, fun b hb => ?_, g.dj⟩
  · rcases Nat.lt_trichotomy l h.length with hl | hl | hl
    · rw [hget_append_lt hl]
      refine ORep.keep (h := h) gr (hn ▸ hl) _ rfl (fun hv => ?_) (g.obj l)
      have := g.lt l hv
      simp [Array.getElem?_push, Nat.ne_of_lt this]
    · subst hl; rw [hget_append_eq, ← hn]; exact ho
    · rw [hget_ge (by simp; omega)]; trivial
  · by_cases hl : l = cx.n
    · subst hl; simp [Cx.ext]
    · have := g.lt l (hlv l hl hv)
      simp [Cx.ext, upd_ne, hl]; omega
  · by_cases hl : l = cx.n
    · subst hl; simp only [Cx.ext, upd_same]; intro hf; have := g.fzlt _ hf; omega
    · have := g.own l (hlv l hl hv)
      simpa [Cx.ext, upd_ne, hl, Cx.hd] using this
  · by_cases h1 : l = cx.n <;> by_cases h2 : m = cx.n
    · rw [h1, h2]
    · have := g.lt m (hlv m h2 hm); simp [Cx.ext, upd_ne, h1, h2] at e; omega
    · have := g.lt l (hlv l h1 hl); simp [Cx.ext, upd_ne, h1, h2] at e; omega
    · exact g.inj l m (hlv l h1 hl) (hlv m h2 hm) (by simpa [Cx.ext, upd_ne, h1, h2] using e)
  · have := g.fzlt b hb; simp; omega

/-- The block of a live loc is written. -/
theorem Gam.write {cx : Cx} {h : SH} {w w' : World} (g : Gam cx h w) {l : Nat} (hv : liv cx h l) (so : SO)
    (hso : liv cx (h.set l so) l ∨ so = .dead) (hsz : w'.heap.size = w.heap.size) (hot : ∀ b, b ≠ cx.th l → w'.heap[b]? = w.heap[b]?)
    (ho : ORep cx w' l so) (hio : Io w w') : Gam cx (h.set l so) w' ∧ Grow0 cx w cx w' := by
  have hlt := lt_of_liv hv
  have gr : Grow0 cx w cx w' := ⟨fun _ h => h, fun b hb => hot b (fun e => g.own l hv (e ▸ hb)), by omega, fun _ h _ => ⟨h, rfl, rfl, rfl, rfl, rfl⟩, rfl, hio⟩
  refine ⟨?_, gr⟩
  have hlv : ∀ m, liv cx (h.set l so) m → liv cx h m := by
    intro m hm
    by_cases e : m = l
    · subst e; exact hv
    · simpa [liv, hget_set_ne e] using hm
  refine ⟨by simp [g.n], fun m => ?_, fun m hm => hsz ▸ g.lt m (hlv m hm), fun m hm => g.own m (hlv m hm), fun a b ha hb e => g.inj a b (hlv a ha) (hlv b hb) e, fun b hb => hsz ▸ g.fzlt b hb, g.dj⟩
  by_cases e : m = l
  · subst e; rw [hget_set_eq hlt]; exact ho
  · rw [hget_set_ne e]
    rcases Nat.lt_or_ge m h.length with hm | hm
    · refine ORep.keep (h := h) gr (g.n ▸ hm) _ rfl (fun hvm => hot _ (fun e' => e (g.inj m l hvm hv e'))) (g.obj m)
    · rw [hget_ge hm]; trivial

/-- The world changes where no loc and no frozen block lies. -/
theorem Gam.world {cx : Cx} {h : SH} {w w' : World} (g : Gam cx h w) (hh : w'.heap = w.heap) (h1 : w'.os = w.os) (h2 : w'.output = w.output) : Gam cx h w' ∧ Grow0 cx w cx w' := by
  have gr : Grow0 cx w cx w' := ⟨fun _ h => h, fun b _ => by rw [hh], by rw [hh]; exact Nat.le_refl _, fun _ h _ => ⟨h, rfl, rfl, rfl, rfl, rfl⟩, rfl, .of_heap hh h1 h2⟩
  refine ⟨⟨g.n, fun m => ?_, fun m hm => by rw [hh]; exact g.lt m hm, g.own, g.inj, fun b hb => by rw [hh]; exact g.fzlt b hb, g.dj⟩, gr⟩
  rcases Nat.lt_or_ge m h.length with hm | hm
  · exact ORep.keep (h := h) gr (g.n ▸ hm) _ rfl (fun _ => by rw [hh]) (g.obj m)
  · rw [hget_ge hm]; trivial

/-- A loc is given up; its block is frozen from now on. -/
def Cx.freeze (cx : Cx) (b : Nat) : Cx := { cx with fz := fun x => cx.fz x ∨ x = b }

theorem Gam.kill {cx : Cx} {h : SH} {w : World} (g : Gam cx h w) {l : Nat} (hv : liv cx h l) :
    Gam (cx.freeze (cx.th l)) (h.set l .dead) w ∧ Grow0 cx w (cx.freeze (cx.th l)) w := by
  have hlt := lt_of_liv hv
  have gr : Grow0 cx w (cx.freeze (cx.th l)) w := ⟨fun _ h => .inl h, fun _ _ => rfl, Nat.le_refl _, fun _ h _ => ⟨h, rfl, rfl, rfl, rfl, rfl⟩, rfl, .refl _⟩
  refine ⟨?_, gr⟩
  have hlv : ∀ m, liv (cx.freeze (cx.th l)) (h.set l .dead) m → m ≠ l ∧ liv cx h m := by
    intro m hm
    by_cases e : m = l
    · subst e; simp [liv, hget_set_eq hlt] at hm
    · exact ⟨e, by simpa [liv, hget_set_ne e, Cx.freeze] using hm⟩
  refine ⟨by simp [g.n, Cx.freeze], fun m => ?_, fun m hm => g.lt m (hlv m hm).2, fun m hm hf => ?_, fun a b ha hb e => g.inj a b (hlv a ha).2 (hlv b hb).2 e, fun b hb => ?_, fun b hb hf => ?_⟩
  · by_cases e : m = l
    · subst e; rw [hget_set_eq hlt]; trivial
    · rw [hget_set_ne e]
      rcases Nat.lt_or_ge m h.length with hm | hm
      · exact ORep.keep (h := h) gr (g.n ▸ hm) _ rfl (fun _ => rfl) (g.obj m)
      · rw [hget_ge hm]; trivial
  · rcases hf with (hf | hf) | hf
    · exact g.own m (hlv m hm).2 (.inl hf)
    · exact (hlv m hm).1 (g.inj m l (hlv m hm).2 hv hf)
    · exact g.own m (hlv m hm).2 (.inr hf)
  · rcases hb with (hb | hb) | hb
    · exact g.fzlt b (.inl hb)
    · subst hb; exact g.lt l hv
    · exact g.fzlt b (.inr hb)
  · rcases hb with hb | hb
    · exact g.dj b hb hf
    · subst hb; exact g.own l hv (.inr hf)

/-- A nil row is given up. -/
theorem Gam.killNil {cx : Cx} {h : SH} {w : World} (g : Gam cx h w) {l : Nat} (hv : ¬ liv cx h l) : Gam cx (h.set l .dead) w := by
  have hlv : ∀ m, liv cx (h.set l .dead) m → liv cx h m := by
    intro m hm
    by_cases e : m = l
    · subst e
      rcases Nat.lt_or_ge m h.length with h1 | h1
      · simp [liv, hget_set_eq h1] at hm
      · simp [liv, hget_ge (h := h.set m .dead) (l := m) (by simpa using h1)] at hm
    · simpa [liv, hget_set_ne e] using hm
  refine ⟨by simp [g.n], fun m => ?_, fun m hm => g.lt m (hlv m hm), fun m hm => g.own m (hlv m hm), fun a b ha hb e => g.inj a b (hlv a ha) (hlv b hb) e, g.fzlt, g.dj⟩
  by_cases e : m = l
  · subst e
    rcases Nat.lt_or_ge m h.length with h1 | h1
    · rw [hget_set_eq h1]; trivial
    · rw [hget_ge (by simpa using h1)]; trivial
  · rw [hget_set_ne e]; exact g.obj m

end Go.Sx
