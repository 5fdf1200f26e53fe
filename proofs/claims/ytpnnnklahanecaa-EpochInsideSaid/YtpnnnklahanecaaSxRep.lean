/- What a symbolic value and a symbolic heap say of the machine's memory; that this lasts while memory grows. -/
import Derived.Test.YtpnnnklahanecaaSxRun
namespace Go.Sx

structure Cx where
  n : Nat
  th : Nat → Nat
  ln : Nat → Nat
  cp : Nat → Nat
  nl : Nat → Bool
  rs : Nat → Nat
  fz : Nat → Prop
  fr : Nat → Prop

/-- Blocks that stay as they are: data, and what lies beyond (the frame). -/
def Cx.hd (cx : Cx) (b : Nat) : Prop := cx.fz b ∨ cx.fr b

/-- May this value stand in a cell? -/
def cellV : Value → Prop
  | .agg _ | .tuple _ => False
  | _ => True

def ad (b o : Nat) : Addr := ⟨b, o, none⟩

def DRep (fz : Nat → Prop) (w : World) : DV → Value → Prop
  | .v x, u => u = x ∧ cellV x
  | .ints k l, u => ∃ a c, u = .slice a l.length c ∧ l.length ≤ c ∧ (l ≠ [] → ∃ b o, a = some (ad b o) ∧ fz b ∧ ∀ i, i < l.length → w.cell? (ad b (o + i)) = some (.int k (l.getD i 0)))
  | .sl sz n f, u => ∃ a c, u = .slice a n c ∧ n ≤ c ∧ (n ≠ 0 → ∃ b o, a = some (ad b o) ∧ fz b ∧ ∀ i, i < n → ∀ j, j < sz → ∃ x, w.cell? (ad b (o + (i * sz + j))) = some x ∧ DRep fz w (f i j) x)

 mutual
def SRep (cx : Cx) (w : World) : SV → Value → Prop
  | .d x, u => DRep cx.fz w x u
  | .ptr l o, u => l < cx.n ∧ u = .pointer (some (ad (cx.th l) o))
  | .pe l i o, u => l < cx.n ∧ u = .pointer (some (ad (cx.th l) (i * cx.rs l + o))) ∧ i < cx.ln l ∧ cx.nl l = false
  | .rp sz f o, u => ∃ b o', u = .pointer (some (ad b (o' + o))) ∧ cx.fz b ∧ ∀ j, j < sz → ∃ x, w.cell? (ad b (o' + j)) = some x ∧ DRep cx.fz w (f j) x
  | .own l, u => l < cx.n ∧ u = .slice (bif cx.nl l then none else some (ad (cx.th l) 0)) (cx.ln l) (cx.cp l)
  | .cs l o _ n c, u => l < cx.n ∧ u = .slice (some (ad (cx.th l) o)) n c
  | .mp l, u => l < cx.n ∧ u = .map (some (cx.th l))
  | .fn g a b, u => ∃ a' b', u = .func g ⟨a'⟩ ⟨b'⟩ ∧ SRepL cx w a a' ∧ SRepL cx w b b'
  | .agg c, u => ∃ c', u = .agg ⟨c'⟩ ∧ SRepL cx w c c'
  | .tup c, u => ∃ c', u = .tuple ⟨c'⟩ ∧ SRepL cx w c c'
  | .top, _ => True
def SRepL (cx : Cx) (w : World) : List SV → List Value → Prop
  | [], [] => True
  | x :: r, v :: vs => SRep cx w x v ∧ SRepL cx w r vs
  | _, _ => False
end

def vals (k : IntKind) (xs : List Int) : List Value := xs.map (.int k)

/-- Entries of a map, without their stamps. -/
def ents (es : Array MapEntry) : List (Value × Value) := es.toList.map fun e => (e.key, e.val)

def SRepE (cx : Cx) (w : World) : List (Value × SV) → List (Value × Value) → Prop
  | [], [] => True
  | (q, x) :: r, (q', v) :: vs => q = q' ∧ SRep cx w x v ∧ SRepE cx w r vs
  | _, _ => False

/-- The object at loc l. -/
def ORep (cx : Cx) (w : World) (l : Nat) : SO → Prop
  | .dead => True
  | .cells _ c => ∃ t c', w.heap[cx.th l]? = some (.cells ⟨c'⟩ t (0, 0)) ∧ SRepL cx w c c'
  | .rowi _ k xs => cx.ln l = xs.length ∧ cx.rs l = 1 ∧ xs.length ≤ cx.cp l ∧ (cx.nl l = true → cx.cp l = 0) ∧
      (cx.nl l = false → ∃ t c', w.heap[cx.th l]? = some (.cells c' t (0, 0)) ∧ c'.size = cx.cp l ∧ ∀ i, i < xs.length → c'[i]? = some (.int k (xs.getD i 0)))
  | .row _ sz n f => cx.ln l = n ∧ cx.rs l = sz ∧ n ≤ cx.cp l ∧ (cx.nl l = true → cx.cp l = 0) ∧
      (cx.nl l = false → ∃ t c', w.heap[cx.th l]? = some (.cells c' t (0, 0)) ∧ c'.size = cx.cp l * sz ∧ ∀ i, i < n → ∀ j, j < sz → ∃ x, c'[i * sz + j]? = some x ∧ DRep cx.fz w (f i j) x)
  | .mapi k es => ∃ e c, w.heap[cx.th l]? = some (.map e c) ∧ ents e = es.map fun p => (p.1, .int k p.2)
  | .mapb es => ∃ e c, w.heap[cx.th l]? = some (.map e c) ∧ ents e = es.map fun p => (p.1, .bool p.2)
  | .maps es => ∃ e c, w.heap[cx.th l]? = some (.map e c) ∧ SRepE cx w es (ents e)

/-- Does the loc hold a block of its own? -/
def liv (cx : Cx) (h : SH) (l : Nat) : Prop :=
  match hget h l with
  | .dead => False
  | .rowi .. | .row .. => cx.nl l = false
  | _ => True

structure Gam (cx : Cx) (h : SH) (w : World) : Prop where
  n : cx.n = h.length
  obj : ∀ l, ORep cx w l (hget h l)
  lt : ∀ l, liv cx h l → cx.th l < w.heap.size
  own : ∀ l, liv cx h l → ¬ cx.hd (cx.th l)
  inj : ∀ l m, liv cx h l → liv cx h m → cx.th l = cx.th m → l = m
  fzlt : ∀ b, cx.hd b → b < w.heap.size
  dj : ∀ b, cx.fz b → ¬ cx.fr b

def TRep (cx : Cx) (w : World) (t : List (Nat × SV)) (tm : Array Value) : Prop :=
  ∀ i x, (i, x) ∈ t → i < tm.size ∧ SRep cx w x (tm.getD i undef)

/-- What no operation here touches: the machine's outside, and which cells are frozen by the machine. -/
structure Io (w w' : World) : Prop where
  os : w'.os = w.os
  out : w'.output = w.output
  frz : ∀ a, w'.frozen? a = w.frozen? a

theorem Io.refl (w : World) : Io w w := ⟨rfl, rfl, fun _ => rfl⟩
theorem Io.trans {a b c : World} (h : Io a b) (h' : Io b c) : Io a c := ⟨h'.os.trans h.os, h'.out.trans h.out, fun x => (h'.frz x).trans (h.frz x)⟩
theorem Io.of_heap {w w' : World} (h : w'.heap = w.heap) (h1 : w'.os = w.os) (h2 : w'.output = w.output) : Io w w' := ⟨h1, h2, fun a => by simp only [World.frozen?, h]⟩

/-- Memory has grown; what was frozen is as it was; the locs but those of p mean what they meant. -/
structure Grow (p : Nat → Bool) (cx : Cx) (w : World) (cx' : Cx) (w' : World) : Prop where
  fz : ∀ b, cx.fz b → cx'.fz b
  same : ∀ b, cx.hd b → w'.heap[b]? = w.heap[b]?
  size : w.heap.size ≤ w'.heap.size
  loc : ∀ l, l < cx.n → p l = false → l < cx'.n ∧ cx'.th l = cx.th l ∧ cx'.ln l = cx.ln l ∧ cx'.cp l = cx.cp l ∧ cx'.nl l = cx.nl l ∧ cx'.rs l = cx.rs l
  fr : cx'.fr = cx.fr
  io : Io w w'

theorem Grow.samef {p : Nat → Bool} {cx cx' : Cx} {w w' : World} (g : Grow p cx w cx' w') (b : Nat) (h : cx.fz b) : w'.heap[b]? = w.heap[b]? := g.same b (.inl h)
theorem Grow.hd {p : Nat → Bool} {cx cx' : Cx} {w w' : World} (g : Grow p cx w cx' w') (b : Nat) (h : cx.hd b) : cx'.hd b := h.imp (g.fz b) (fun h => g.fr ▸ h)

theorem cell_same {w w' : World} {b o : Nat} (h : w'.heap[b]? = w.heap[b]?) : w'.cell? (ad b o) = w.cell? (ad b o) := by
  simp only [World.cell?, ad, h]

theorem DRep.mono {fz fz' : Nat → Prop} {w w' : World} (hf : ∀ b, fz b → fz' b) (hs : ∀ b, fz b → w'.heap[b]? = w.heap[b]?) :
    ∀ (x : DV) (u : Value), DRep fz w x u → DRep fz' w' x u
  | .v x, u, h => h
  | .ints k l, u, ⟨a, c, e, hc, h⟩ => ⟨a, c, e, hc, fun hn => by
      obtain ⟨b, o, ea, hb, hi⟩ := h hn
      exact ⟨b, o, ea, hf b hb, fun i hl => by rw [cell_same (hs b hb)]; exact hi i hl⟩⟩
  | .sl sz n f, u, ⟨a, c, e, hc, h⟩ => ⟨a, c, e, hc, fun hn => by
      obtain ⟨b, o, ea, hb, hi⟩ := h hn
      refine ⟨b, o, ea, hf b hb, fun i hl j hj => ?_⟩
      obtain ⟨x, hx, hr⟩ := hi i hl j hj
      exact ⟨x, by rw [cell_same (hs b hb)]; exact hx, DRep.mono hf hs (f i j) x hr⟩⟩

theorem SRepL.length {cx : Cx} {w : World} : ∀ {c : List SV} {c' : List Value}, SRepL cx w c c' → c.length = c'.length
  | [], [], _ => rfl
  | _ :: _, _ :: _, h => by simp only [SRepL] at h; simp [SRepL.length h.2]
  | [], _ :: _, h => by simp [SRepL] at h
  | _ :: _, [], h => by simp [SRepL] at h

 mutual
theorem SRep.mono {p : Nat → Bool} {cx cx' : Cx} {w w' : World} (g : Grow p cx w cx' w') : ∀ (x : SV) (u : Value), ment p x = false → SRep cx w x u → SRep cx' w' x u
  | .d x, u, _, h => by simp only [SRep] at h ⊢; exact DRep.mono g.fz g.samef x u h
  | .ptr l o, u, hm, h => by
      simp only [SRep, ment] at h hm ⊢
      obtain ⟨h1, h2, _⟩ := g.loc l h.1 hm
      exact ⟨h1, by rw [h2]; exact h.2⟩
  | .pe l i o, u, hm, h => by
      simp only [SRep, ment] at h hm ⊢
      obtain ⟨h1, h2, h3, h4, h5, h6⟩ := g.loc l h.1 hm
      rw [h2, h3, h5, h6]; exact ⟨h1, h.2⟩
  | .rp sz f o, u, _, h => by
      simp only [SRep] at h ⊢
      obtain ⟨b, o', e, hb, hj⟩ := h
      refine ⟨b, o', e, g.fz b hb, fun j hl => ?_⟩
      obtain ⟨x, hx, hr⟩ := hj j hl
      exact ⟨x, by rw [cell_same (g.samef b hb)]; exact hx, DRep.mono g.fz g.samef _ _ hr⟩
  | .own l, u, hm, h => by
      simp only [SRep, ment] at h hm ⊢
      obtain ⟨h1, h2, h3, h4, h5, h6⟩ := g.loc l h.1 hm
      rw [h2, h3, h4, h5]; exact ⟨h1, h.2⟩
  | .cs l o sz n c, u, hm, h => by
      simp only [SRep, ment] at h hm ⊢
      obtain ⟨h1, h2, _⟩ := g.loc l h.1 hm
      rw [h2]; exact ⟨h1, h.2⟩
  | .mp l, u, hm, h => by
      simp only [SRep, ment] at h hm ⊢
      obtain ⟨h1, h2, _⟩ := g.loc l h.1 hm
      rw [h2]; exact ⟨h1, h.2⟩
  | .fn q a b, u, hm, h => by
      simp only [SRep, ment, Bool.or_eq_false_iff] at h hm ⊢
      obtain ⟨a', b', e, ha, hb⟩ := h
      exact ⟨a', b', e, SRepL.mono g a a' hm.1 ha, SRepL.mono g b b' hm.2 hb⟩
  | .agg c, u, hm, h => by
      simp only [SRep, ment] at h hm ⊢
      obtain ⟨c', e, hc⟩ := h
      exact ⟨c', e, SRepL.mono g c c' hm hc⟩
  | .tup c, u, hm, h => by
      simp only [SRep, ment] at h hm ⊢
      obtain ⟨c', e, hc⟩ := h
      exact ⟨c', e, SRepL.mono g c c' hm hc⟩
  | .top, u, _, _ => by simp only [SRep]
theorem SRepL.mono {p : Nat → Bool} {cx cx' : Cx} {w w' : World} (g : Grow p cx w cx' w') : ∀ (c : List SV) (c' : List Value), mentL p c = false → SRepL cx w c c' → SRepL cx' w' c c'
  | [], [], _, _ => by simp only [SRepL]
  | x :: r, v :: vs, hm, h => by
      simp only [SRepL, mentL, Bool.or_eq_false_iff] at h hm ⊢
      exact ⟨SRep.mono g x v hm.1 h.1, SRepL.mono g r vs hm.2 h.2⟩
  | [], _ :: _, _, h => by simp [SRepL] at h
  | _ :: _, [], _, h => by simp [SRepL] at h
end

 mutual
theorem ment_none : ∀ x : SV, ment (fun _ => false) x = false
  | .d _ | .ptr _ _ | .pe _ _ _ | .rp _ _ _ | .own _ | .cs _ _ _ _ _ | .mp _ | .top => by simp [ment]
  | .fn _ a b => by simp [ment, mentL_none a, mentL_none b]
  | .agg c => by simp [ment, mentL_none c]
  | .tup c => by simp [ment, mentL_none c]
theorem mentL_none : ∀ c : List SV, mentL (fun _ => false) c = false
  | [] => by simp [mentL]
  | x :: r => by simp [mentL, ment_none x, mentL_none r]
end

abbrev Grow0 := Grow (fun _ => false)

theorem SRep.grow {cx cx' : Cx} {w w' : World} (g : Grow0 cx w cx' w') {x : SV} {u : Value} (h : SRep cx w x u) : SRep cx' w' x u := SRep.mono g x u (ment_none x) h
theorem SRepL.grow {cx cx' : Cx} {w w' : World} (g : Grow0 cx w cx' w') {c : List SV} {c' : List Value} (h : SRepL cx w c c') : SRepL cx' w' c c' := SRepL.mono g c c' (mentL_none c) h

theorem SRepE.mono {p : Nat → Bool} {cx cx' : Cx} {w w' : World} (g : Grow p cx w cx' w') : ∀ (c : List (Value × SV)) (c' : List (Value × Value)), mentE p c = false → SRepE cx w c c' → SRepE cx' w' c c'
  | [], [], _, _ => by simp only [SRepE]
  | (q, x) :: r, (q', v) :: vs, hm, h => by
      simp only [SRepE, mentE, Bool.or_eq_false_iff] at h hm ⊢
      exact ⟨h.1, SRep.mono g x v hm.1 h.2.1, SRepE.mono g r vs hm.2 h.2.2⟩
  | [], _ :: _, _, h => by simp [SRepE] at h
  | _ :: _, [], _, h => by simp [SRepE] at h

theorem Grow.refl (p : Nat → Bool) (cx : Cx) (w : World) : Grow p cx w cx w := ⟨fun _ h => h, fun _ _ => rfl, Nat.le_refl _, fun _ h _ => ⟨h, rfl, rfl, rfl, rfl, rfl⟩, rfl, Io.refl _⟩

theorem Grow.trans {p : Nat → Bool} {cx cx1 cx2 : Cx} {w w1 w2 : World} (a : Grow p cx w cx1 w1) (b : Grow p cx1 w1 cx2 w2) : Grow p cx w cx2 w2 where
  fz := fun x h => b.fz x (a.fz x h)
  same := fun x h => by rw [b.same x (a.hd x h), a.same x h]
  fr := b.fr.trans a.fr
  io := a.io.trans b.io
  size := Nat.le_trans a.size b.size
  loc := fun l hl hp => by
    obtain ⟨h1, h2, h3, h4, h5, h6⟩ := a.loc l hl hp
    obtain ⟨k1, k2, k3, k4, k5, k6⟩ := b.loc l h1 hp
    exact ⟨k1, by rw [k2, h2], by rw [k3, h3], by rw [k4, h4], by rw [k5, h5], by rw [k6, h6]⟩

/-- An object lasts where its own block is as it was. -/
theorem ORep.mono {p : Nat → Bool} {cx cx' : Cx} {w w' : World} (g : Grow p cx w cx' w') {l : Nat} (hl : l < cx.n) (hp : p l = false) (o : SO) (hm : mentO p o = false)
    (hb : (∀ xs t k, o = .rowi t k xs → cx.nl l = false → w'.heap[cx.th l]? = w.heap[cx.th l]?) ∧ (∀ t sz n f, o = .row t sz n f → cx.nl l = false → w'.heap[cx.th l]? = w.heap[cx.th l]?) ∧
      ((∀ xs t k, o ≠ .rowi t k xs) → (∀ t sz n f, o ≠ .row t sz n f) → o ≠ .dead → w'.heap[cx.th l]? = w.heap[cx.th l]?))
    (h : ORep cx w l o) : ORep cx' w' l o := by
  obtain ⟨h1, h2, h3, h4, h5, h6⟩ := g.loc l hl hp
  cases o with
  | dead => exact h
  | cells t c =>
    have e := hb.2.2 (by simp) (by simp) (by simp)
    obtain ⟨t', c', hc, hr⟩ := h
    exact ⟨t', c', by rw [h2, e]; exact hc, SRepL.mono g c c' hm hr⟩
  | rowi t k xs =>
    have e := hb.1 xs t k rfl
    simp only [ORep, h2, h3, h4, h5, h6] at h ⊢
    refine ⟨h.1, h.2.1, h.2.2.1, h.2.2.2.1, fun hn => ?_⟩
    rw [e hn]; exact h.2.2.2.2 hn
  | row t sz n f =>
    have e := hb.2.1 t sz n f rfl
    simp only [ORep, h2, h3, h4, h5, h6] at h ⊢
    refine ⟨h.1, h.2.1, h.2.2.1, h.2.2.2.1, fun hn => ?_⟩
    rw [e hn]
    obtain ⟨t', c', hc, hs, hi⟩ := h.2.2.2.2 hn
    refine ⟨t', c', hc, hs, fun i hi' j hj => ?_⟩
    obtain ⟨x, hx, hr⟩ := hi i hi' j hj
    exact ⟨x, hx, DRep.mono g.fz g.samef _ _ hr⟩
  | mapi k es =>
    have e := hb.2.2 (by simp) (by simp) (by simp)
    simp only [ORep, h2, e] at h ⊢; exact h
  | mapb es =>
    have e := hb.2.2 (by simp) (by simp) (by simp)
    simp only [ORep, h2, e] at h ⊢; exact h
  | maps es =>
    have e := hb.2.2 (by simp) (by simp) (by simp)
    obtain ⟨e', c, hc, hr⟩ := h
    exact ⟨e', c, by rw [h2, e]; exact hc, SRepE.mono g es _ hm hr⟩

theorem mentE_none : ∀ c : List (Value × SV), mentE (fun _ => false) c = false
  | [] => by simp [mentE]
  | (_, x) :: r => by simp [mentE, ment_none x, mentE_none r]
theorem mentO_none (o : SO) : mentO (fun _ => false) o = false := by cases o <;> simp [mentO, mentL_none, mentE_none]

theorem TRep.mono {p : Nat → Bool} {cx cx' : Cx} {w w' : World} (g : Grow p cx w cx' w') {t : List (Nat × SV)} {tm : Array Value} (hm : ∀ i x, (i, x) ∈ t → ment p x = false) (h : TRep cx w t tm) : TRep cx' w' t tm :=
  fun i x hx => ⟨(h i x hx).1, SRep.mono g x _ (hm i x hx) (h i x hx).2⟩
theorem TRep.grow {cx cx' : Cx} {w w' : World} (g : Grow0 cx w cx' w') {t : List (Nat × SV)} {tm : Array Value} (h : TRep cx w t tm) : TRep cx' w' t tm :=
  TRep.mono g (fun _ x _ => ment_none x) h

end Go.Sx
