/- What a symbolic value and a symbolic heap say of the machine's memory; that this lasts while memory grows. -/
import Derived.Test.YtaejdljgfmclpaaGreatSxRun
import Derived.Laws.Cells
import Derived.Laws.AppendOwn
import Derived.Laws.MakeOwn
import Derived.Laws.CopyRow
import Derived.Laws.StructEq
set_option linter.all false
set_option linter.unusedVariables false
set_option linter.unusedSimpArgs false
set_option linter.unnecessarySimpa false
namespace Go.Sx

structure Cx where
  n : Nat
  th : Nat → Nat
  ln : Nat → Nat
  cp : Nat → Nat
  nl : Nat → Bool
  rs : Nat → Nat
  fz : Nat → Prop
  fr : Nat → Prop

/-- Blocks that stay as they are: data, and what lies beyond (the frame). -/
def Cx.hd (cx : Cx) (b : Nat) : Prop := cx.fz b ∨ cx.fr b

/-- May this value stand in a cell? -/
def cellV : Value → Prop
  | .agg _ | .tuple _ => False
  | _ => True

def ad (b o : Nat) : Addr := ⟨b, o, none⟩

def DRep (fz : Nat → Prop) (w : World) : DV → Value → Prop
  | .v x, u => u = x ∧ cellV x
  | .ints k l, u => ∃ a c, u = .slice a l.length c ∧ l.length ≤ c ∧ (l ≠ [] → ∃ b o, a = some (ad b o) ∧ fz b ∧ ∀ i, i < l.length → w.cell? (ad b (o + i)) = some (.int k (l.getD i 0)))
  | .sl sz n f, u => ∃ a c, u = .slice a n c ∧ n ≤ c ∧ (n ≠ 0 → ∃ b o, a = some (ad b o) ∧ fz b ∧ ∀ i, i < n → ∀ j, j < sz → ∃ x, w.cell? (ad b (o + (i * sz + j))) = some x ∧ DRep fz w (f i j) x)

/-- Entries of a map, without their stamps. -/
def ents (es : Array MapEntry) : List (Value × Value) := es.toList.map fun e => (e.key, e.val)

 mutual
def SRep (cx : Cx) (w : World) : SV → Value → Prop
  | .d x, u => DRep cx.fz w x u
  | .ptr l o, u => l < cx.n ∧ u = .pointer (some (ad (cx.th l) o))
  | .pe l i o, u => l < cx.n ∧ u = .pointer (some (ad (cx.th l) (i * cx.rs l + o))) ∧ i < cx.ln l ∧ cx.nl l = false
  | .rp sz f o, u => ∃ b o', u = .pointer (some (ad b (o' + o))) ∧ cx.fz b ∧ ∀ j, j < sz → ∃ x, w.cell? (ad b (o' + j)) = some x ∧ DRep cx.fz w (f j) x
  | .own l, u => l < cx.n ∧ u = .slice (bif cx.nl l then none else some (ad (cx.th l) 0)) (cx.ln l) (cx.cp l)
  | .cs l o _ n c, u => l < cx.n ∧ u = .slice (some (ad (cx.th l) o)) n c
  | .mp l, u => l < cx.n ∧ u = .map (some (cx.th l))
  | .rc c o, u => ∃ b vs, u = .pointer (some (ad b o)) ∧ cx.fz b ∧ (∀ j v, vs[j]? = some v → w.cell? (ad b j) = some v) ∧ SRepL cx w c vs
  | .md ks xs, u => ∃ b e c vs, u = .map (some b) ∧ cx.fz b ∧ w.heap[b]? = some (.map e c) ∧ ents e = ks.zip vs ∧ vs.length = ks.length ∧ SRepL cx w xs vs
  | .fn g a b, u => ∃ a' b', u = .func g ⟨a'⟩ ⟨b'⟩ ∧ SRepL cx w a a' ∧ SRepL cx w b b'
  | .agg c, u => ∃ c', u = .agg ⟨c'⟩ ∧ SRepL cx w c c'
  | .tup c, u => ∃ c', u = .tuple ⟨c'⟩ ∧ SRepL cx w c c'
  | .top, _ => True
def SRepL (cx : Cx) (w : World) : List SV → List Value → Prop
  | [], [] => True
  | x :: r, v :: vs => SRep cx w x v ∧ SRepL cx w r vs
  | _, _ => False
end

def vals (k : IntKind) (xs : List Int) : List Value := xs.map (.int k)

def SRepE (cx : Cx) (w : World) : List (Value × SV) → List (Value × Value) → Prop
  | [], [] => True
  | (q, x) :: r, (q', v) :: vs => q = q' ∧ SRep cx w x v ∧ SRepE cx w r vs
  | _, _ => False

/-- The object at loc l. -/
def ORep (cx : Cx) (w : World) (l : Nat) : SO → Prop
  | .dead => True
  | .cells _ c => ∃ t c', w.heap[cx.th l]? = some (.cells ⟨c'⟩ t (0, 0)) ∧ SRepL cx w c c'
  | .rowi _ k xs => cx.ln l = xs.length ∧ cx.rs l = 1 ∧ xs.length ≤ cx.cp l ∧ (cx.nl l = true → cx.cp l = 0) ∧
      (cx.nl l = false → ∃ t c', w.heap[cx.th l]? = some (.cells c' t (0, 0)) ∧ c'.size = cx.cp l ∧ ∀ i, i < xs.length → c'[i]? = some (.int k (xs.getD i 0)))
  | .row _ sz n f => cx.ln l = n ∧ cx.rs l = sz ∧ n ≤ cx.cp l ∧ (cx.nl l = true → cx.cp l = 0) ∧
      (cx.nl l = false → ∃ t c', w.heap[cx.th l]? = some (.cells c' t (0, 0)) ∧ c'.size = cx.cp l * sz ∧ ∀ i, i < n → ∀ j, j < sz → ∃ x, c'[i * sz + j]? = some x ∧ DRep cx.fz w (f i j) x)
  | .mapi k es => ∃ e c, w.heap[cx.th l]? = some (.map e c) ∧ ents e = es.map fun p => (p.1, .int k p.2)
  | .mapb es => ∃ e c, w.heap[cx.th l]? = some (.map e c) ∧ ents e = es.map fun p => (p.1, .bool p.2)
  | .maps es => ∃ e c, w.heap[cx.th l]? = some (.map e c) ∧ SRepE cx w es (ents e)

/-- Does the loc hold a block of its own? -/
def liv (cx : Cx) (h : SH) (l : Nat) : Prop :=
  match hget h l with
  | .dead => False
  | .rowi .. | .row .. => cx.nl l = false
  | _ => True

structure Gam (cx : Cx) (h : SH) (w : World) : Prop where
  n : cx.n = h.length
  obj : ∀ l, ORep cx w l (hget h l)
  lt : ∀ l, liv cx h l → cx.th l < w.heap.size
  own : ∀ l, liv cx h l → ¬ cx.hd (cx.th l)
  inj : ∀ l m, liv cx h l → liv cx h m → cx.th l = cx.th m → l = m
  fzlt : ∀ b, cx.hd b → b < w.heap.size
  dj : ∀ b, cx.fz b → ¬ cx.fr b

def TRep (cx : Cx) (w : World) (t : List (Nat × SV)) (tm : Array Value) : Prop :=
  ∀ i x, (i, x) ∈ t → i < tm.size ∧ SRep cx w x (tm.getD i undef)

/-- What no operation here touches: the machine's outside, and which cells are frozen by the machine. -/
structure Io (w w' : World) : Prop where
  os : w'.os = w.os
  out : w'.output = w.output
  frz : ∀ a, a.block < w.heap.size → w'.frozen? a = w.frozen? a
  sz : w.heap.size ≤ w'.heap.size

theorem Io.refl (w : World) : Io w w := ⟨rfl, rfl, fun _ _ => rfl, Nat.le_refl _⟩
theorem Io.trans {a b c : World} (h : Io a b) (h' : Io b c) : Io a c := ⟨h'.os.trans h.os, h'.out.trans h.out, fun x hx => (h'.frz x (Nat.lt_of_lt_of_le hx h.sz)).trans (h.frz x hx), Nat.le_trans h.sz h'.sz⟩
theorem Io.of_heap {w w' : World} (h : w'.heap = w.heap) (h1 : w'.os = w.os) (h2 : w'.output = w.output) : Io w w' := ⟨h1, h2, fun a _ => by simp only [World.frozen?, h], by rw [h]; exact Nat.le_refl _⟩

/-- Memory has grown; what was frozen is as it was; the locs but those of p mean what they meant. -/
structure Grow (p : Nat → Bool) (cx : Cx) (w : World) (cx' : Cx) (w' : World) : Prop where
  fz : ∀ b, cx.fz b → cx'.fz b
  same : ∀ b, cx.hd b → w'.heap[b]? = w.heap[b]?
  size : w.heap.size ≤ w'.heap.size
  loc : ∀ l, l < cx.n → p l = false → l < cx'.n ∧ cx'.th l = cx.th l ∧ cx'.ln l = cx.ln l ∧ cx'.cp l = cx.cp l ∧ cx'.nl l = cx.nl l ∧ cx'.rs l = cx.rs l
  fr : cx'.fr = cx.fr
  io : Io w w'

theorem Grow.samef {p : Nat → Bool} {cx cx' : Cx} {w w' : World} (g : Grow p cx w cx' w') (b : Nat) (h : cx.fz b) : w'.heap[b]? = w.heap[b]? := g.same b (.inl h)
theorem Grow.hd {p : Nat → Bool} {cx cx' : Cx} {w w' : World} (g : Grow p cx w cx' w') (b : Nat) (h : cx.hd b) : cx'.hd b := h.imp (g.fz b) (fun h => g.fr ▸ h)

theorem cell_same {w w' : World} {b o : Nat} (h : w'.heap[b]? = w.heap[b]?) : w'.cell? (ad b o) = w.cell? (ad b o) := by
  simp only [World.cell?, ad, h]

theorem DRep.mono {fz fz' : Nat → Prop} {w w' : World} (hf : ∀ b, fz b → fz' b) (hs : ∀ b, fz b → w'.heap[b]? = w.heap[b]?) :
    ∀ (x : DV) (u : Value), DRep fz w x u → DRep fz' w' x u
  | .v x, u, h => h
  | .ints k l, u, ⟨a, c, e, hc, h⟩ => ⟨a, c, e, hc, fun hn => by
      obtain ⟨b, o, ea, hb, hi⟩ := h hn
      exact ⟨b, o, ea, hf b hb, fun i hl => by rw [cell_same (hs b hb)]; exact hi i hl⟩⟩
  | .sl sz n f, u, ⟨a, c, e, hc, h⟩ => ⟨a, c, e, hc, fun hn => by
      obtain ⟨b, o, ea, hb, hi⟩ := h hn
      refine ⟨b, o, ea, hf b hb, fun i hl j hj => ?_⟩
      obtain ⟨x, hx, hr⟩ := hi i hl j hj
      exact ⟨x, by rw [cell_same (hs b hb)]; exact hx, DRep.mono hf hs (f i j) x hr⟩⟩

theorem SRepL.length {cx : Cx} {w : World} : ∀ {c : List SV} {c' : List Value}, SRepL cx w c c' → c.length = c'.length
  | [], [], _ => rfl
  | _ :: _, _ :: _, h => by simp only [SRepL] at h; simp [SRepL.length h.2]
  | [], _ :: _, h => by simp [SRepL] at h
  | _ :: _, [], h => by simp [SRepL] at h

 mutual
theorem SRep.mono {p : Nat → Bool} {cx cx' : Cx} {w w' : World} (g : Grow p cx w cx' w') : ∀ (x : SV) (u : Value), ment p x = false → SRep cx w x u → SRep cx' w' x u
  | .d x, u, _, h => by simp only [SRep] at h ⊢; exact DRep.mono g.fz g.samef x u h
  | .ptr l o, u, hm, h => by
      simp only [SRep, ment] at h hm ⊢
      obtain ⟨h1, h2, _⟩ := g.loc l h.1 hm
      exact ⟨h1, by rw [h2]; exact h.2⟩
  | .pe l i o, u, hm, h => by
      simp only [SRep, ment] at h hm ⊢
      obtain ⟨h1, h2, h3, h4, h5, h6⟩ := g.loc l h.1 hm
      rw [h2, h3, h5, h6]; exact ⟨h1, h.2⟩
  | .rp sz f o, u, _, h => by
      simp only [SRep] at h ⊢
      obtain ⟨b, o', e, hb, hj⟩ := h
      refine ⟨b, o', e, g.fz b hb, fun j hl => ?_⟩
      obtain ⟨x, hx, hr⟩ := hj j hl
      exact ⟨x, by rw [cell_same (g.samef b hb)]; exact hx, DRep.mono g.fz g.samef _ _ hr⟩
  | .own l, u, hm, h => by
      simp only [SRep, ment] at h hm ⊢
      obtain ⟨h1, h2, h3, h4, h5, h6⟩ := g.loc l h.1 hm
      rw [h2, h3, h4, h5]; exact ⟨h1, h.2⟩
  | .cs l o sz n c, u, hm, h => by
      simp only [SRep, ment] at h hm ⊢
      obtain ⟨h1, h2, _⟩ := g.loc l h.1 hm
      rw [h2]; exact ⟨h1, h.2⟩
  | .mp l, u, hm, h => by
      simp only [SRep, ment] at h hm ⊢
      obtain ⟨h1, h2, _⟩ := g.loc l h.1 hm
      rw [h2]; exact ⟨h1, h.2⟩
  | .fn q a b, u, hm, h => by
      simp only [SRep, ment, Bool.or_eq_false_iff] at h hm ⊢
      obtain ⟨a', b', e, ha, hb⟩ := h
      exact ⟨a', b', e, SRepL.mono g a a' hm.1 ha, SRepL.mono g b b' hm.2 hb⟩
  | .agg c, u, hm, h => by
      simp only [SRep, ment] at h hm ⊢
      obtain ⟨c', e, hc⟩ := h
      exact ⟨c', e, SRepL.mono g c c' hm hc⟩
  | .tup c, u, hm, h => by
      simp only [SRep, ment] at h hm ⊢
      obtain ⟨c', e, hc⟩ := h
      exact ⟨c', e, SRepL.mono g c c' hm hc⟩
  | .md ks c, u, hm, h => by
      simp only [SRep, ment] at h hm ⊢
      obtain ⟨b, e, c', vs, eu, hb, hw, hl, hk, hc⟩ := h
      exact ⟨b, e, c', vs, eu, g.fz b hb, by rw [g.samef b hb]; exact hw, hl, hk, SRepL.mono g c vs hm hc⟩
  | .rc c o, u, hm, h => by
      simp only [SRep, ment] at h hm ⊢
      obtain ⟨b, vs, eu, hb, hw, hc⟩ := h
      exact ⟨b, vs, eu, g.fz b hb, fun j v hv => by rw [cell_same (g.samef b hb)]; exact hw j v hv, SRepL.mono g c vs hm hc⟩
  | .top, u, _, _ => by simp only [SRep]
theorem SRepL.mono {p : Nat → Bool} {cx cx' : Cx} {w w' : World} (g : Grow p cx w cx' w') : ∀ (c : List SV) (c' : List Value), mentL p c = false → SRepL cx w c c' → SRepL cx' w' c c'
  | [], [], _, _ => by simp only [SRepL]
  | x :: r, v :: vs, hm, h => by
      simp only [SRepL, mentL, Bool.or_eq_false_iff] at h hm ⊢
      exact ⟨SRep.mono g x v hm.1 h.1, SRepL.mono g r vs hm.2 h.2⟩
  | [], _ :: _, _, h => by simp [SRepL] at h
  | _ :: _, [], _, h => by simp [SRepL] at h
end

 mutual
theorem ment_none : ∀ x : SV, ment (fun _ => false) x = false
  | .d _ | .ptr _ _ | .pe _ _ _ | .rp _ _ _ | .own _ | .cs _ _ _ _ _ | .mp _ | .top => by simp [ment]
  | .fn _ a b => by simp [ment, mentL_none a, mentL_none b]
  | .agg c => by simp [ment, mentL_none c]
  | .tup c => by simp [ment, mentL_none c]
  | .md _ c => by simp [ment, mentL_none c]
  | .rc c _ => by simp [ment, mentL_none c]
theorem mentL_none : ∀ c : List SV, mentL (fun _ => false) c = false
  | [] => by simp [mentL]
  | x :: r => by simp [mentL, ment_none x, mentL_none r]
end

abbrev Grow0 := Grow (fun _ => false)

theorem SRep.grow {cx cx' : Cx} {w w' : World} (g : Grow0 cx w cx' w') {x : SV} {u : Value} (h : SRep cx w x u) : SRep cx' w' x u := SRep.mono g x u (ment_none x) h
theorem SRepL.grow {cx cx' : Cx} {w w' : World} (g : Grow0 cx w cx' w') {c : List SV} {c' : List Value} (h : SRepL cx w c c') : SRepL cx' w' c c' := SRepL.mono g c c' (mentL_none c) h

theorem SRepE.mono {p : Nat → Bool} {cx cx' : Cx} {w w' : World} (g : Grow p cx w cx' w') : ∀ (c : List (Value × SV)) (c' : List (Value × Value)), mentE p c = false → SRepE cx w c c' → SRepE cx' w' c c'
  | [], [], _, _ => by simp only [SRepE]
  | (q, x) :: r, (q', v) :: vs, hm, h => by
      simp only [SRepE, mentE, Bool.or_eq_false_iff] at h hm ⊢
      exact ⟨h.1, SRep.mono g x v hm.1 h.2.1, SRepE.mono g r vs hm.2 h.2.2⟩
  | [], _ :: _, _, h => by simp [SRepE] at h
  | _ :: _, [], _, h => by simp [SRepE] at h

theorem Grow.refl (p : Nat → Bool) (cx : Cx) (w : World) : Grow p cx w cx w := ⟨fun _ h => h, fun _ _ => rfl, Nat.le_refl _, fun _ h _ => ⟨h, rfl, rfl, rfl, rfl, rfl⟩, rfl, Io.refl _⟩

theorem Grow.trans {p : Nat → Bool} {cx cx1 cx2 : Cx} {w w1 w2 : World} (a : Grow p cx w cx1 w1) (b : Grow p cx1 w1 cx2 w2) : Grow p cx w cx2 w2 where
  fz := fun x h => b.fz x (a.fz x h)
  same := fun x h => by rw [b.same x (a.hd x h), a.same x h]
  fr := b.fr.trans a.fr
  io := a.io.trans b.io
  size := Nat.le_trans a.size b.size
  loc := fun l hl hp => by
    obtain ⟨h1, h2, h3, h4, h5, h6⟩ := a.loc l hl hp
    obtain ⟨k1, k2, k3, k4, k5, k6⟩ := b.loc l h1 hp
    exact ⟨k1, by rw [k2, h2], by rw [k3, h3], by rw [k4, h4], by rw [k5, h5], by rw [k6, h6]⟩

/-- An object lasts where its own block is as it was. -/
theorem ORep.mono {p : Nat → Bool} {cx cx' : Cx} {w w' : World} (g : Grow p cx w cx' w') {l : Nat} (hl : l < cx.n) (hp : p l = false) (o : SO) (hm : mentO p o = false)
    (hb : (∀ xs t k, o = .rowi t k xs → cx.nl l = false → w'.heap[cx.th l]? = w.heap[cx.th l]?) ∧ (∀ t sz n f, o = .row t sz n f → cx.nl l = false → w'.heap[cx.th l]? = w.heap[cx.th l]?) ∧
      ((∀ xs t k, o ≠ .rowi t k xs) → (∀ t sz n f, o ≠ .row t sz n f) → o ≠ .dead → w'.heap[cx.th l]? = w.heap[cx.th l]?))
    (h : ORep cx w l o) : ORep cx' w' l o := by
  obtain ⟨h1, h2, h3, h4, h5, h6⟩ := g.loc l hl hp
  cases o with
  | dead => exact h
  | cells t c =>
    have e := hb.2.2 (by simp) (by simp) (by simp)
    obtain ⟨t', c', hc, hr⟩ := h
    exact ⟨t', c', by rw [h2, e]; exact hc, SRepL.mono g c c' hm hr⟩
  | rowi t k xs =>
    have e := hb.1 xs t k rfl
    simp only [ORep, h2, h3, h4, h5, h6] at h ⊢
    refine ⟨h.1, h.2.1, h.2.2.1, h.2.2.2.1, fun hn => ?_⟩
    rw [e hn]; exact h.2.2.2.2 hn
  | row t sz n f =>
    have e := hb.2.1 t sz n f rfl
    simp only [ORep, h2, h3, h4, h5, h6] at h ⊢
    refine ⟨h.1, h.2.1, h.2.2.1, h.2.2.2.1, fun hn => ?_⟩
    rw [e hn]
    obtain ⟨t', c', hc, hs, hi⟩ := h.2.2.2.2 hn
    refine ⟨t', c', hc, hs, fun i hi' j hj => ?_⟩
    obtain ⟨x, hx, hr⟩ := hi i hi' j hj
    exact ⟨x, hx, DRep.mono g.fz g.samef _ _ hr⟩
  | mapi k es =>
    have e := hb.2.2 (by simp) (by simp) (by simp)
    simp only [ORep, h2, e] at h ⊢; exact h
  | mapb es =>
    have e := hb.2.2 (by simp) (by simp) (by simp)
    simp only [ORep, h2, e] at h ⊢; exact h
  | maps es =>
    have e := hb.2.2 (by simp) (by simp) (by simp)
    obtain ⟨e', c, hc, hr⟩ := h
    exact ⟨e', c, by rw [h2, e]; exact hc, SRepE.mono g es _ hm hr⟩

theorem mentE_none : ∀ c : List (Value × SV), mentE (fun _ => false) c = false
  | [] => by simp [mentE]
  | (_, x) :: r => by simp [mentE, ment_none x, mentE_none r]
theorem mentO_none (o : SO) : mentO (fun _ => false) o = false := by cases o <;> simp [mentO, mentL_none, mentE_none]

theorem TRep.mono {p : Nat → Bool} {cx cx' : Cx} {w w' : World} (g : Grow p cx w cx' w') {t : List (Nat × SV)} {tm : Array Value} (hm : ∀ i x, (i, x) ∈ t → ment p x = false) (h : TRep cx w t tm) : TRep cx' w' t tm :=
  fun i x hx => ⟨(h i x hx).1, SRep.mono g x _ (hm i x hx) (h i x hx).2⟩
theorem TRep.grow {cx cx' : Cx} {w w' : World} (g : Grow0 cx w cx' w') {t : List (Nat × SV)} {tm : Array Value} (h : TRep cx w t tm) : TRep cx' w' t tm :=
  TRep.mono g (fun _ x _ => ment_none x) h

end Go.Sx

/- The symbolic heap under the machine's writes: a new block, a block written, a row frozen, a row grown. -/
namespace Go.Sx

def upd {α : Type} (f : Nat → α) (i : Nat) (x : α) : Nat → α := fun j => if j = i then x else f j
 @[simp] theorem upd_same {α : Type} (f : Nat → α) (i : Nat) (x : α) : upd f i x i = x := by simp [upd]
theorem upd_ne {α : Type} (f : Nat → α) {i j : Nat} (x : α) (h : j ≠ i) : upd f i x j = f j := by simp [upd, h]

/-- One more loc. -/
def Cx.ext (cx : Cx) (b ln cp : Nat) (nl : Bool) (rs : Nat) : Cx where
  n := cx.n + 1
  th := upd cx.th cx.n b
  ln := upd cx.ln cx.n ln
  cp := upd cx.cp cx.n cp
  nl := upd cx.nl cx.n nl
  rs := upd cx.rs cx.n rs
  fz := cx.fz
  fr := cx.fr

theorem hget_append_lt {h : SH} {o : SO} {l : Nat} (hl : l < h.length) : hget (h ++ [o]) l = hget h l := by
  simp [hget, List.getD_eq_getElem?_getD, List.getElem?_append_left hl]
theorem hget_append_eq {h : SH} {o : SO} : hget (h ++ [o]) h.length = o := by
  simp [hget, List.getD_eq_getElem?_getD]
theorem hget_ge {h : SH} {l : Nat} (hl : h.length ≤ l) : hget h l = .dead := by
  simp [hget, List.getD_eq_getElem?_getD, List.getElem?_eq_none hl]
theorem hget_set_eq {h : SH} {o : SO} {l : Nat} (hl : l < h.length) : hget (h.set l o) l = o := by
  simp [hget, List.getD_eq_getElem?_getD, hl]
theorem hget_set_ne {h : SH} {o : SO} {l m : Nat} (hm : m ≠ l) : hget (h.set l o) m = hget h m := by
  simp [hget, List.getD_eq_getElem?_getD, List.getElem?_set_ne (Ne.symm hm)]
theorem lt_of_hget {h : SH} {l : Nat} (hl : hget h l ≠ .dead) : l < h.length := by
  rcases Nat.lt_or_ge l h.length with h1 | h1
  · exact h1
  · exact absurd (hget_ge h1) hl

theorem lt_of_liv {cx : Cx} {h : SH} {l : Nat} (hl : liv cx h l) : l < h.length := by
  apply lt_of_hget; intro e; simp [liv, e] at hl

/-- Nothing but new blocks, or a block of one's own, is written: what ORep says of another loc lasts. -/
theorem ORep.keep {cx cx' : Cx} {h : SH} {w w' : World} (g : Grow0 cx w cx' w') {l : Nat} (hl : l < cx.n) (o : SO) (ho : hget h l = o)
    (hb : liv cx h l → w'.heap[cx.th l]? = w.heap[cx.th l]?) (hr : ORep cx w l o) : ORep cx' w' l o := by
  refine ORep.mono g hl rfl o (mentO_none o) ⟨fun xs t k e hn => hb ?_, fun t sz n f e hn => hb ?_, fun h1 h2 h3 => hb ?_⟩ hr
  · simp [liv, ho, e, hn]
  · simp [liv, ho, e, hn]
  · cases o with
    | dead => exact absurd rfl h3
    | rowi t k xs => exact absurd rfl (h1 xs t k)
    | row t sz n f => exact absurd rfl (h2 t sz n f)
    | _ => simp [liv, ho]

/-- A new block without frozen cells. -/
def NoFrz (ob : Obj) : Prop := (∃ c t, ob = .cells c t (0, 0)) ∨ ∃ e c, ob = .map e c

theorem frozen_push {w : World} {ob : Obj} (hob : NoFrz ob) (a : Addr) : ({ w with heap := w.heap.push ob } : World).frozen? a = w.frozen? a := by
  simp only [World.frozen?, Array.getElem?_push]
  by_cases h : a.block = w.heap.size
  · rw [if_pos h, h]
    rcases hob with ⟨c, t, rfl⟩ | ⟨e, c, rfl⟩ <;> simp
  · rw [if_neg h]

theorem Grow.ext (cx : Cx) (w : World) (ob : Obj) (b ln cp : Nat) (nl : Bool) (rs : Nat) (hfz : ∀ b, cx.hd b → b < w.heap.size) (hob : NoFrz ob) :
    Grow0 cx w (cx.ext b ln cp nl rs) { w with heap := w.heap.push ob } where
  fz := fun _ h => h
  same := fun b h => by
    have := hfz b h
    simp [Array.getElem?_push, Nat.ne_of_lt this]
  size := by simp
  loc := fun l hl _ => by
    have hne : l ≠ cx.n := Nat.ne_of_lt hl
    simp [Cx.ext, upd_ne, hne]; omega
  fr := rfl
  io := ⟨rfl, rfl, fun a _ => frozen_push hob a, by simp⟩

/-- A new block. -/
theorem Gam.push {cx : Cx} {h : SH} {w : World} (g : Gam cx h w) (so : SO) (ob : Obj) (ln cp : Nat) (nl : Bool) (rs : Nat) (hob : NoFrz ob)
    (ho : ORep (cx.ext w.heap.size ln cp nl rs) { w with heap := w.heap.push ob } cx.n so) :
    Gam (cx.ext w.heap.size ln cp nl rs) (h ++ [so]) { w with heap := w.heap.push ob } ∧ Grow0 cx w (cx.ext w.heap.size ln cp nl rs) { w with heap := w.heap.push ob } := by
  have gr := Grow.ext cx w ob w.heap.size ln cp nl rs g.fzlt hob
  refine ⟨?_, gr⟩
  have hn := g.n
  have hlv : ∀ l, l ≠ cx.n → liv (cx.ext w.heap.size ln cp nl rs) (h ++ [so]) l → liv cx h l := by
    intro l hl hv
    have hlt := lt_of_liv hv
    simp only [List.length_append, List.length_cons, List.length_nil] at hlt
    have : l < h.length := by omega
    simpa [liv, hget_append_lt this, Cx.ext, upd_ne, hl] using hv
  refine ⟨by simp [Cx.ext, hn], fun l => ?_, fun l hv => ?_, fun l hv => ?_, fun l m hl hm e => ?_, fun b hb => ?_, g.dj⟩
  · rcases Nat.lt_trichotomy l h.length with hl | hl | hl
    · rw [hget_append_lt hl]
      refine ORep.keep (h := h) gr (hn ▸ hl) _ rfl (fun hv => ?_) (g.obj l)
      have := g.lt l hv
      simp [Array.getElem?_push, Nat.ne_of_lt this]
    · subst hl; rw [hget_append_eq, ← hn]; exact ho
    · rw [hget_ge (by simp; omega)]; trivial
  · by_cases hl : l = cx.n
    · subst hl; simp [Cx.ext]
    · have := g.lt l (hlv l hl hv)
      simp [Cx.ext, upd_ne, hl]; omega
  · by_cases hl : l = cx.n
    · subst hl; simp only [Cx.ext, upd_same]; intro hf; have := g.fzlt _ hf; omega
    · have := g.own l (hlv l hl hv)
      simpa [Cx.ext, upd_ne, hl, Cx.hd] using this
  · by_cases h1 : l = cx.n <;> by_cases h2 : m = cx.n
    · rw [h1, h2]
    · have := g.lt m (hlv m h2 hm); simp [Cx.ext, upd_ne, h1, h2] at e; omega
    · have := g.lt l (hlv l h1 hl); simp [Cx.ext, upd_ne, h1, h2] at e; omega
    · exact g.inj l m (hlv l h1 hl) (hlv m h2 hm) (by simpa [Cx.ext, upd_ne, h1, h2] using e)
  · have := g.fzlt b hb; simp; omega

/-- The block of a live loc is written. -/
theorem Gam.write {cx : Cx} {h : SH} {w w' : World} (g : Gam cx h w) {l : Nat} (hv : liv cx h l) (so : SO)
    (hso : liv cx (h.set l so) l ∨ so = .dead) (hsz : w'.heap.size = w.heap.size) (hot : ∀ b, b ≠ cx.th l → w'.heap[b]? = w.heap[b]?)
    (ho : ORep cx w' l so) (hio : Io w w') : Gam cx (h.set l so) w' ∧ Grow0 cx w cx w' := by
  have hlt := lt_of_liv hv
  have gr : Grow0 cx w cx w' := ⟨fun _ h => h, fun b hb => hot b (fun e => g.own l hv (e ▸ hb)), by omega, fun _ h _ => ⟨h, rfl, rfl, rfl, rfl, rfl⟩, rfl, hio⟩
  refine ⟨?_, gr⟩
  have hlv : ∀ m, liv cx (h.set l so) m → liv cx h m := by
    intro m hm
    by_cases e : m = l
    · subst e; exact hv
    · simpa [liv, hget_set_ne e] using hm
  refine ⟨by simp [g.n], fun m => ?_, fun m hm => hsz ▸ g.lt m (hlv m hm), fun m hm => g.own m (hlv m hm), fun a b ha hb e => g.inj a b (hlv a ha) (hlv b hb) e, fun b hb => hsz ▸ g.fzlt b hb, g.dj⟩
  by_cases e : m = l
  · subst e; rw [hget_set_eq hlt]; exact ho
  · rw [hget_set_ne e]
    rcases Nat.lt_or_ge m h.length with hm | hm
    · refine ORep.keep (h := h) gr (g.n ▸ hm) _ rfl (fun hvm => hot _ (fun e' => e (g.inj m l hvm hv e'))) (g.obj m)
    · rw [hget_ge hm]; trivial

/-- The world changes where no loc and no frozen block lies. -/
theorem Gam.world {cx : Cx} {h : SH} {w w' : World} (g : Gam cx h w) (hh : w'.heap = w.heap) (h1 : w'.os = w.os) (h2 : w'.output = w.output) : Gam cx h w' ∧ Grow0 cx w cx w' := by
  have gr : Grow0 cx w cx w' := ⟨fun _ h => h, fun b _ => by rw [hh], by rw [hh]; exact Nat.le_refl _, fun _ h _ => ⟨h, rfl, rfl, rfl, rfl, rfl⟩, rfl, .of_heap hh h1 h2⟩
  refine ⟨⟨g.n, fun m => ?_, fun m hm => by rw [hh]; exact g.lt m hm, g.own, g.inj, fun b hb => by rw [hh]; exact g.fzlt b hb, g.dj⟩, gr⟩
  rcases Nat.lt_or_ge m h.length with hm | hm
  · exact ORep.keep (h := h) gr (g.n ▸ hm) _ rfl (fun _ => by rw [hh]) (g.obj m)
  · rw [hget_ge hm]; trivial

/-- A loc is given up; its block is frozen from now on. -/
def Cx.freeze (cx : Cx) (b : Nat) : Cx := { cx with fz := fun x => cx.fz x ∨ x = b }

theorem Gam.kill {cx : Cx} {h : SH} {w : World} (g : Gam cx h w) {l : Nat} (hv : liv cx h l) :
    Gam (cx.freeze (cx.th l)) (h.set l .dead) w ∧ Grow0 cx w (cx.freeze (cx.th l)) w := by
  have hlt := lt_of_liv hv
  have gr : Grow0 cx w (cx.freeze (cx.th l)) w := ⟨fun _ h => .inl h, fun _ _ => rfl, Nat.le_refl _, fun _ h _ => ⟨h, rfl, rfl, rfl, rfl, rfl⟩, rfl, .refl _⟩
  refine ⟨?_, gr⟩
  have hlv : ∀ m, liv (cx.freeze (cx.th l)) (h.set l .dead) m → m ≠ l ∧ liv cx h m := by
    intro m hm
    by_cases e : m = l
    · subst e; simp [liv, hget_set_eq hlt] at hm
    · exact ⟨e, by simpa [liv, hget_set_ne e, Cx.freeze] using hm⟩
  refine ⟨by simp [g.n, Cx.freeze], fun m => ?_, fun m hm => g.lt m (hlv m hm).2, fun m hm hf => ?_, fun a b ha hb e => g.inj a b (hlv a ha).2 (hlv b hb).2 e, fun b hb => ?_, fun b hb hf => ?_⟩
  · by_cases e : m = l
    · subst e; rw [hget_set_eq hlt]; trivial
    · rw [hget_set_ne e]
      rcases Nat.lt_or_ge m h.length with hm | hm
      · exact ORep.keep (h := h) gr (g.n ▸ hm) _ rfl (fun _ => rfl) (g.obj m)
      · rw [hget_ge hm]; trivial
  · rcases hf with (hf | hf) | hf
    · exact g.own m (hlv m hm).2 (.inl hf)
    · exact (hlv m hm).1 (g.inj m l (hlv m hm).2 hv hf)
    · exact g.own m (hlv m hm).2 (.inr hf)
  · rcases hb with (hb | hb) | hb
    · exact g.fzlt b (.inl hb)
    · subst hb; exact g.lt l hv
    · exact g.fzlt b (.inr hb)
  · rcases hb with hb | hb
    · exact g.dj b hb hf
    · subst hb; exact g.own l hv (.inr hf)

/-- A nil row is given up. -/
theorem Gam.killNil {cx : Cx} {h : SH} {w : World} (g : Gam cx h w) {l : Nat} (hv : ¬ liv cx h l) : Gam cx (h.set l .dead) w := by
  have hlv : ∀ m, liv cx (h.set l .dead) m → liv cx h m := by
    intro m hm
    by_cases e : m = l
    · subst e
      rcases Nat.lt_or_ge m h.length with h1 | h1
      · simp [liv, hget_set_eq h1] at hm
      · simp [liv, hget_ge (h := h.set m .dead) (l := m) (by simpa using h1)] at hm
    · simpa [liv, hget_set_ne e] using hm
  refine ⟨by simp [g.n], fun m => ?_, fun m hm => g.lt m (hlv m hm), fun m hm => g.own m (hlv m hm), fun a b ha hb e => g.inj a b (hlv a ha) (hlv b hb) e, g.fzlt, g.dj⟩
  by_cases e : m = l
  · subst e
    rcases Nat.lt_or_ge m h.length with h1 | h1
    · rw [hget_set_eq h1]; trivial
    · rw [hget_ge (by simpa using h1)]; trivial
  · rw [hget_set_ne e]; exact g.obj m

end Go.Sx

/- What an operation computes on symbolic values, the machine does: one lemma for each operation. -/
namespace Go.Sx

/-- What is kept from world to world. -/
structure Pres (cx : Cx) (w : World) (cx' : Cx) (w' : World) : Prop where
  fz : ∀ b, cx.fz b → cx'.fz b
  same : ∀ b, cx.fz b → w'.heap[b]? = w.heap[b]?
  size : w.heap.size ≤ w'.heap.size

theorem Pres.refl (cx : Cx) (w : World) : Pres cx w cx w := ⟨fun _ h => h, fun _ _ => rfl, Nat.le_refl _⟩
theorem Pres.trans {cx cx1 cx2 : Cx} {w w1 w2 : World} (a : Pres cx w cx1 w1) (b : Pres cx1 w1 cx2 w2) : Pres cx w cx2 w2 :=
  ⟨fun x h => b.fz x (a.fz x h), fun x h => by rw [b.same x (a.fz x h), a.same x h], Nat.le_trans a.size b.size⟩
/-- The locs that code may append to, as a predicate. -/
def Ann.p (A : Ann) (l : Nat) : Bool := A.ok l

theorem Grow.weak {p q : Nat → Bool} {cx cx1 : Cx} {w w1 : World} (a : Grow p cx w cx1 w1) (h : ∀ l, q l = false → p l = false) : Grow q cx w cx1 w1 :=
  ⟨a.fz, a.same, a.size, fun l hl hq => a.loc l hl (h l hq), a.fr, a.io⟩
theorem Grow.to {q : Nat → Bool} {cx cx1 : Cx} {w w1 : World} (a : Grow0 cx w cx1 w1) : Grow q cx w cx1 w1 := a.weak fun _ _ => rfl

/-- One operation, run from every memory that the symbolic state describes. -/
def OpOKp (P : Program) (p : Nat → Bool) (o : Oper) (s : SS) (v : SV) (s' : SS) : Prop :=
  ∀ (cx : Cx) (w : World) (a : Act), Gam cx s.h w → TRep cx w s.t a.tmps → ∀ (next : Act → World → Prop) (Q : Exit → Act → World → Prop),
    (∀ cx' w' v', Grow p cx w cx' w' → SRep cx' w' v v' → TRep cx' w' s'.t a.tmps → Gam cx' s'.h w' → next (a.put o.dst v') w') → o.wp P a w next Q
abbrev OpOK (P : Program) (A : Ann) (o : Oper) (s : SS) (v : SV) (s' : SS) : Prop := OpOKp P A.p o s v s'
abbrev OpOK0 (P : Program) (o : Oper) (s : SS) (v : SV) (s' : SS) : Prop := OpOKp P (fun _ => false) o s v s'

theorem OpOKp.weak {P : Program} {p q : Nat → Bool} {o : Oper} {s s' : SS} {v : SV} (h : OpOKp P p o s v s') (hp : ∀ l, q l = false → p l = false) : OpOKp P q o s v s' :=
  fun cx w a hg ht next Q hk => h cx w a hg ht next Q fun cx' w' v' g => hk cx' w' v' (g.weak hp)

/-- The objects alone, without their number. -/
structure Seen (cx : Cx) (h : SH) (w : World) : Prop where
  obj : ∀ l, ORep cx w l (hget h l)
theorem Gam.seen {cx : Cx} {h : SH} {w : World} (g : Gam cx h w) : Seen cx h w := ⟨g.obj⟩

/-- One operation that only looks. -/
def Still (P : Program) (o : Oper) (s : SS) (v : SV) : Prop :=
  ∀ (cx : Cx) (w : World) (a : Act), Seen cx s.h w → TRep cx w s.t a.tmps → ∃ v', (execOp a.eval o).run P w = .ok (.value v') w ∧ SRep cx w v v'

def PlainV (P : Program) (o : Oper) (s : SS) {Ω : Type} (k : SV → List Nat → SS → Option Ω) (out : Ω) : Prop :=
  ∃ v, k v [] s = some out ∧ Still P o s v

/-! ### types -/
theorem info_of_uT {P : Program} {t : TypeId} (h : uT P t ≠ .invalid) : P.underlying t = some (uT P t) ∧ ∃ i, P.info? t = some i := by
  unfold uT at *
  cases hu : P.underlying t with
  | none => simp [hu] at h
  | some d =>
    refine ⟨rfl, ?_⟩
    unfold Program.underlying at hu
    cases hi : P.info? t with
    | none => simp [hi] at hu
    | some i => exact ⟨i, rfl⟩

theorem run_uT {P : Program} {t : TypeId} (w : World) (h : uT P t ≠ .invalid) : (underlying t).run P w = .ok (uT P t) w := by
  simp [underlying, (info_of_uT h).1]

theorem info_of_sz {P : Program} {t : TypeId} (h : szT P t ≠ 0) : ∃ i, P.info? t = some i ∧ i.size = szT P t := by
  unfold szT at *
  cases hi : P.info? t with
  | none => simp [hi] at h
  | some i => exact ⟨i, rfl, rfl⟩

theorem run_szT {P : Program} {t : TypeId} (w : World) (h : ∃ i, P.info? t = some i) : (sizeOf t).run P w = .ok (szT P t) w := by
  obtain ⟨i, hi⟩ := h
  simp [sizeOf, typeInfo, szT, hi]

theorem run_aggT {P : Program} {t : TypeId} (w : World) (h : uT P t ≠ .invalid) : (isAgg t).run P w = .ok (aggT P t) w := by
  unfold isAgg aggT
  simp only [Sem.run_bind, run_uT w h, Result.andThen_ok]
  cases uT P t <;> rfl

/-! ### operands -/
theorem SRepL.const {cx : Cx} {w : World} : ∀ {c : List Value}, flatV c = true → SRepL cx w (c.map fun x => .d (.v x)) c
  | [], _ => by simp [SRepL]
  | x :: r, h => by
    cases x <;> simp_all [flatV, SRepL, SRep, DRep, cellV, SRepL.const (c := r)]

theorem SRep.cst {cx : Cx} {w : World} (c : Value) : SRep cx w (cst c) c := by
  unfold Go.Sx.cst
  split
  · simp only [SRep]; exact ⟨[], [], rfl, by simp [SRepL], by simp [SRepL]⟩
  · simp [SRep]
  · rename_i c'
    cases hf : flatV c'.toList with
    | false => simp [SRep]
    | true => simp only [cond_true, SRep]; exact ⟨c'.toList, rfl, SRepL.const hf⟩
  · simp [SRep]
  · simp only [SRep, DRep, true_and]
    rename_i h1 h2 h3 h4
    cases c <;> simp_all [cellV]

theorem SRep.lk {cx : Cx} {w : World} {tm : Array Value} (n : Nat) : ∀ {t : List (Nat × SV)}, TRep cx w t tm → SRep cx w (lk t n) (tm.getD n undef)
  | [], _ => by simp [Sx.lk, SRep]
  | (k, v) :: r, ht => by
    simp only [Sx.lk]
    by_cases hk : k = n
    · subst hk; simp only [Nat.beq_refl, cond_true]; exact (ht _ v (by simp)).2
    · have : Nat.beq k n = false := Bool.eq_false_iff.2 (fun h => hk (Nat.eq_of_beq_eq_true h))
      simp only [this, cond_false]
      exact SRep.lk n fun i x hx => ht i x (by simp [hx])

theorem eval_coA {x : Operand} {y : CA} (h : coA x = some y) {cx : Cx} {w : World} {a : Act} {t : List (Nat × SV)} (ht : TRep cx w t a.tmps) : SRep cx w (ev t y) (a.eval x) := by
  cases x with
  | tmp n =>
    simp only [coA, Option.some.injEq] at h; subst h
    simp only [ev, Act.eval]
    exact SRep.lk n ht
  | const c =>
    simp only [coA, Option.some.injEq] at h; subst h
    simp only [ev, Act.eval]
    exact SRep.cst c
  | global g => simp [coA] at h
  | func f =>
    simp only [coA, Option.some.injEq] at h; subst h
    simp only [ev, Act.eval, SRep]; exact ⟨[], [], rfl, by simp [SRepL], by simp [SRepL]⟩

theorem eval_coL {cx : Cx} {w : World} {a : Act} {t : List (Nat × SV)} (ht : TRep cx w t a.tmps) : ∀ {xs : List Operand} {ys : List CA}, coL xs = some ys → SRepL cx w (evL t ys) (xs.map a.eval)
  | [], ys, h => by simp only [coL, Option.some.injEq] at h; subst h; simp [evL, SRepL]
  | x :: r, ys, h => by
    simp only [coL] at h
    split at h
    · rename_i y l hy hl
      simp only [Option.some.injEq] at h; subst h
      simp only [evL, List.map_cons, SRepL]
      exact ⟨eval_coA hy ht, eval_coL ht hl⟩
    · simp at h

/-! ### the plain operations -/
theorem Still.op {P : Program} {o : Oper} {s : SS} {v : SV} (h : Still P o s v) : OpOK0 P o s v s := by
  intro cx w a hg ht next Q hk
  obtain ⟨v', hr, hv⟩ := h cx w a hg.seen ht
  unfold Oper.wp
  rw [hr, Oper.upon_value]
  exact hk cx w v' (Grow.refl _ _ _) hv ht hg

theorem snd_mv {P : Program} {o : Oper} {x : Operand} {y : CA} {s : SS} (ho : o.op = .move x ∨ o.op = .assign x) (hc : coA x = some y) : Still P o s (ev s.t y) := by
  refine fun cx w a hg ht => ⟨a.eval x, ?_, eval_coA hc ht⟩
  rcases ho with ho | ho <;> simp [execOp, ho]

/-! ### memory read -/
theorem SRepL.get {cx : Cx} {w : World} : ∀ {c : List SV} {c' : List Value} {i : Nat} {x : SV}, SRepL cx w c c' → c[i]? = some x → ∃ v, c'[i]? = some v ∧ SRep cx w x v
  | x :: r, v :: vs, 0, y, h, e => by simp only [SRepL] at h; simp at e; subst e; exact ⟨v, rfl, h.1⟩
  | x :: r, v :: vs, i + 1, y, h, e => by simp only [SRepL] at h; simp at e; simpa using SRepL.get h.2 e
  | [], _, _, _, _, e => by simp at e
  | _ :: _, [], _, _, h, _ => by simp [SRepL] at h

theorem SRepL.drop {cx : Cx} {w : World} : ∀ (n : Nat) {c : List SV} {c' : List Value}, SRepL cx w c c' → SRepL cx w (c.drop n) (c'.drop n)
  | 0, _, _, h => by simpa using h
  | n + 1, [], [], _ => by simp [SRepL]
  | n + 1, _ :: _, _ :: _, h => by simp only [SRepL] at h; simpa using SRepL.drop n h.2
  | n + 1, [], _ :: _, h => by simp [SRepL] at h
  | n + 1, _ :: _, [], h => by simp [SRepL] at h

theorem SRepL.take {cx : Cx} {w : World} : ∀ (n : Nat) {c : List SV} {c' : List Value}, SRepL cx w c c' → SRepL cx w (c.take n) (c'.take n)
  | 0, _, _, _ => by simp [SRepL]
  | n + 1, [], [], _ => by simp [SRepL]
  | n + 1, _ :: _, _ :: _, h => by simp only [SRepL] at h; simp only [List.take_succ_cons, SRepL]; exact ⟨h.1, SRepL.take n h.2⟩
  | n + 1, [], _ :: _, h => by simp [SRepL] at h
  | n + 1, _ :: _, [], h => by simp [SRepL] at h

theorem SRepL.append {cx : Cx} {w : World} : ∀ {c d : List SV} {c' d' : List Value}, SRepL cx w c c' → SRepL cx w d d' → SRepL cx w (c ++ d) (c' ++ d')
  | [], _, [], _, _, h => by simpa using h
  | _ :: _, _, _ :: _, _, h, h' => by simp only [SRepL] at h; simp only [List.cons_append, SRepL]; exact ⟨h.1, SRepL.append h.2 h'⟩
  | [], _, _ :: _, _, h, _ => by simp [SRepL] at h
  | _ :: _, _, [], _, h, _ => by simp [SRepL] at h

theorem addr_add (b o i : Nat) : (ad b o).add i = ad b (o + i) := by
  unfold Addr.add ad
  split <;> simp_all

theorem rdRow_spec (f : Nat → DV) : ∀ (n o i : Nat), i < n → (rdRow f o n)[i]? = some (.d (f (o + i)))
  | n + 1, o, 0, _ => by simp [rdRow]
  | n + 1, o, i + 1, h => by
    simp only [rdRow, List.getElem?_cons_succ]
    rw [rdRow_spec f n (o + 1) i (by omega)]
    rw [show o + 1 + i = o + (i + 1) by omega]
theorem rdRow_length (f : Nat → DV) : ∀ (n o : Nat), (rdRow f o n).length = n
  | 0, _ => rfl
  | n + 1, o => by simp [rdRow, rdRow_length f n]

theorem SRepL.of {cx : Cx} {w : World} : ∀ {c : List SV} {g : Nat → Value}, (∀ i x, c[i]? = some x → SRep cx w x (g i)) → SRepL cx w c ((List.range c.length).map g)
  | [], _, _ => by simp [SRepL]
  | x :: r, g, h => by
    simp only [List.length_cons, List.range_succ_eq_map, List.map_cons, List.map_map, SRepL]
    refine ⟨h 0 x rfl, ?_⟩
    exact SRepL.of (g := g ∘ Nat.succ) fun i y hy => h (i + 1) y (by simpa using hy)

/-- The cells that ld finds lie in memory at that address. -/
theorem ld_sound {cx : Cx} {h : SH} {w : World} (g : Seen cx h w) {p : SV} {u : Value} (hp : SRep cx w p u) {n : Nat} {c : List SV} (hl : ld h p n = some c) :
    ∃ a c', u = .pointer (some a) ∧ c.length = n ∧ SRepL cx w c c' ∧ ∀ j v, c'[j]? = some v → w.cell? (a.add j) = some v := by
  cases p with
  | ptr l o =>
    simp only [ld] at hl
    simp only [SRep] at hp
    obtain ⟨hn, rfl⟩ := hp
    have ho := g.obj l
    split at hl
    · rename_i t cs hg
      rw [hg] at ho
      obtain ⟨t', c', hh, hr⟩ := ho
      cases hb : Nat.ble (o + n) cs.length with
      | false => simp [hb] at hl
      | true =>
        simp only [hb, cond_true, Option.some.injEq] at hl; subst hl
        have hle := Nat.le_of_ble_eq_true hb
        refine ⟨_, (c'.drop o).take n, rfl, by simp; omega, SRepL.take n (SRepL.drop o hr), fun j v hv => ?_⟩
        rw [addr_add]
        rw [List.getElem?_take] at hv
        split at hv
        · rw [List.getElem?_drop] at hv
          simp [World.cell?, ad, hh, hv]
        · simp at hv
    · simp at hl
  | pe l i o =>
    simp only [ld] at hl
    simp only [SRep] at hp
    obtain ⟨hn, rfl, hi, hnl⟩ := hp
    have ho := g.obj l
    split at hl
    · rename_i t sz m f hg
      rw [hg] at ho
      obtain ⟨hln, hrs, hcp, _, hh⟩ := ho
      obtain ⟨t', c', hh, hs, hr⟩ := hh hnl
      cases hb : Nat.ble (o + n) sz with
      | false => simp [hb] at hl
      | true =>
        simp only [hb, cond_true, Option.some.injEq] at hl; subst hl
        have hle := Nat.le_of_ble_eq_true hb
        refine ⟨_, (List.range n).map fun j => (c'[i * sz + (o + j)]?).getD undef, rfl, by simp [rdRow_length], ?_, fun j v hv => ?_⟩
        · have := SRepL.of (cx := cx) (w := w) (c := rdRow (f i) o n) (g := fun j => (c'[i * sz + (o + j)]?).getD undef) ?_
          · simpa [rdRow_length] using this
          · intro j x hx
            have hj : j < n := by
              have := (List.getElem?_eq_some_iff.1 hx).1
              simpa [rdRow_length] using this
            rw [rdRow_spec _ _ _ _ hj] at hx
            simp only [Option.some.injEq] at hx; subst hx
            obtain ⟨x, hx, hd⟩ := hr i (by omega) (o + j) (by omega)
            simp only [hx, Option.getD_some, SRep]; exact hd
        · rw [addr_add]
          simp only [List.getElem?_map] at hv
          rcases Nat.lt_or_ge j n with hj | hj
          · rw [List.getElem?_range hj] at hv
            simp only [Option.map_some, Option.some.injEq] at hv
            obtain ⟨x, hx, hd⟩ := hr i (by omega) (o + j) (by omega)
            rw [hx] at hv; simp at hv; subst hv
            simp [World.cell?, ad, hh, hrs, Nat.add_assoc, hx]
          · simp [List.getElem?_eq_none (l := List.range n) (by simpa using hj)] at hv
    · rename_i t k xs hg
      rw [hg] at ho
      obtain ⟨hln, hrs, hcp, _, hh⟩ := ho
      obtain ⟨t', c', hh, hs, hr⟩ := hh hnl
      cases hb : (Nat.beq o 0 && Nat.beq n 1) with
      | false => simp [hb] at hl
      | true =>
        simp only [hb, cond_true, Option.some.injEq] at hl; subst hl
        simp only [Bool.and_eq_true] at hb
        have h0 : o = 0 := Nat.eq_of_beq_eq_true hb.1
        have h1 : n = 1 := Nat.eq_of_beq_eq_true hb.2
        subst h0; subst h1
        refine ⟨_, [.int k (xs.getD i 0)], rfl, rfl, by simp [SRepL, SRep, DRep, cellV], fun j v hv => ?_⟩
        rw [addr_add]
        cases j with
        | zero =>
          simp at hv; subst hv
          have := hr i (by omega)
          simp [World.cell?, ad, hh, hrs, this]
        | succ j => simp at hv
    · simp at hl
  | rp sz f o =>
    simp only [ld] at hl
    simp only [SRep] at hp
    obtain ⟨b, o', rfl, hb, hr⟩ := hp
    cases hbl : Nat.ble (o + n) sz with
    | false => simp [hbl] at hl
    | true =>
      simp only [hbl, cond_true, Option.some.injEq] at hl; subst hl
      have hle := Nat.le_of_ble_eq_true hbl
      refine ⟨_, (List.range n).map fun j => (w.cell? (ad b (o' + (o + j)))).getD undef, rfl, by simp [rdRow_length], ?_, fun j v hv => ?_⟩
      · have := SRepL.of (cx := cx) (w := w) (c := rdRow f o n) (g := fun j => (w.cell? (ad b (o' + (o + j)))).getD undef) ?_
        · simpa [rdRow_length] using this
        · intro j x hx
          have hj : j < n := by
            have := (List.getElem?_eq_some_iff.1 hx).1
            simpa [rdRow_length] using this
          rw [rdRow_spec _ _ _ _ hj] at hx
          simp only [Option.some.injEq] at hx; subst hx
          obtain ⟨x, hx, hd⟩ := hr (o + j) (by omega)
          simp only [hx, Option.getD_some, SRep]; exact hd
      · rw [addr_add]
        simp only [List.getElem?_map] at hv
        rcases Nat.lt_or_ge j n with hj | hj
        · rw [List.getElem?_range hj] at hv
          simp only [Option.map_some, Option.some.injEq] at hv
          obtain ⟨x, hx, hd⟩ := hr (o + j) (by omega)
          rw [hx] at hv; simp at hv; subst hv
          rw [show o' + o + j = o' + (o + j) by omega]; exact hx
        · simp [List.getElem?_eq_none (l := List.range n) (by simpa using hj)] at hv
  | rc cs o =>
    simp only [SRep] at hp
    obtain ⟨b, vs, rfl, hb, hw, hc⟩ := hp
    simp only [ld] at hl
    cases hle : Nat.ble (o + n) cs.length with
    | false => simp [hle] at hl
    | true =>
    simp only [hle, cond_true, Option.some.injEq] at hl
    subst hl
    have hle := Nat.le_of_ble_eq_true hle
    have hlen := hc.length
    refine ⟨ad b o, (vs.drop o).take n, rfl, by simp; omega, (hc.drop o).take n, fun j v hv => ?_⟩
    rw [addr_add]
    apply hw
    rw [List.getElem?_take] at hv
    split at hv
    · rw [List.getElem?_drop] at hv; exact hv
    · cases hv
  | _ => simp [ld] at hl

theorem snd_ld {P : Program} {o : Oper} {x : Operand} {y : CA} {t : TypeId} {s : SS} {c : List SV} (ho : o.op = .load t x) (hc : coA x = some y)
    (hu : uT P t ≠ .invalid) (hl : ld s.h (ev s.t y) (ldT P t) = some c) (v : SV) (hv : (aggT P t = true ∧ v = .agg c) ∨ (aggT P t = false ∧ c = [v])) : Still P o s v := by
  intro cx w a hg ht
  obtain ⟨ad', c', hp, hlen, hr, hcell⟩ := ld_sound hg (eval_coA hc ht) hl
  rcases hv with ⟨ha, rfl⟩ | ⟨ha, rfl⟩
  · refine ⟨.agg ⟨c'⟩, ?_, by simp only [SRep]; exact ⟨c', rfl, hr⟩⟩
    have hln : szT P t = c'.length := by rw [← hr.length, hlen]; simp [ldT, ha]
    have := run_loadCells_list (P := P) (w := w) ad' c' hcell
    simp [execOp, ho, Instr.loadAt, hp, Instr.sureAddr, loadVar, run_aggT w hu, ha, run_szT w (info_of_uT hu).2, hln, this]
  · have hln := hr.length
    match c', hln, hr, hcell with
    | [v'], _, hr, hcell =>
      refine ⟨v', ?_, by simp only [SRepL] at hr; exact hr.1⟩
      have h0 := hcell 0 v' rfl
      have : (ad'.add 0) = ad' := by simp [Addr.add]
      rw [this] at h0
      simp [execOp, ho, Instr.loadAt, hp, Instr.sureAddr, loadVar, run_aggT w hu, ha, load, Sem.run, h0]
end Go.Sx

/- Operations, second part: what is written and made. -/
namespace Go.Sx

theorem kEq_eq {a b : IntKind} (h : kEq a b = true) : a = b := by cases a <;> cases b <;> first | rfl | simp [kEq] at h

/-! ### cells of a value -/
theorem one_of_isCell {cx : Cx} {w : World} {x : SV} {u : Value} (h : isCell x = true) (hr : SRep cx w x u) : u.oneCell' = true := by
  cases x with
  | d x =>
    simp only [SRep] at hr
    cases x with
    | v y => obtain ⟨rfl, hc⟩ := hr; cases u <;> simp_all [cellV, Value.oneCell']
    | ints k l => obtain ⟨a, c, rfl, _⟩ := hr; rfl
    | sl sz n f => obtain ⟨a, c, rfl, _⟩ := hr; rfl
  | ptr l o => simp only [SRep] at hr; rw [hr.2]; rfl
  | pe l i o => simp only [SRep] at hr; rw [hr.2.1]; rfl
  | rp sz f o => simp only [SRep] at hr; obtain ⟨b, o', rfl, _⟩ := hr; rfl
  | own l => simp only [SRep] at hr; rw [hr.2]; rfl
  | cs l o sz n c => simp only [SRep] at hr; rw [hr.2]; rfl
  | mp l => simp only [SRep] at hr; rw [hr.2]; rfl
  | md ks c => simp only [SRep] at hr; obtain ⟨b, e, q, vs, rfl, _⟩ := hr; rfl
  | rc c o => simp only [SRep] at hr; obtain ⟨b, vs, rfl, _⟩ := hr; rfl
  | fn g a b => simp only [SRep] at hr; obtain ⟨a', b', rfl, _⟩ := hr; rfl
  | agg c => simp [isCell] at h
  | tup c => simp [isCell] at h
  | top => simp [isCell] at h

theorem one_of_all {cx : Cx} {w : World} : ∀ {c : List SV} {c' : List Value}, allCells c = true → SRepL cx w c c' → ∀ v ∈ c', v.oneCell' = true
  | [], [], _, _, v, hv => by simp at hv
  | x :: r, y :: vs, h, hr, v, hv => by
    simp only [allCells, Bool.and_eq_true, SRepL] at h hr
    rcases List.mem_cons.1 hv with rfl | hv
    · exact one_of_isCell h.1 hr.1
    · exact one_of_all h.2 hr.2 v hv
  | [], _ :: _, _, h, _, _ => by simp [SRepL] at h
  | _ :: _, [], _, h, _, _ => by simp [SRepL] at h

theorem cells_of_one {u : Value} (h : u.oneCell' = true) : u.cells = #[u] := by cases u <;> simp_all [Value.oneCell', Value.cells]

theorem cellsOf_sound {cx : Cx} {w : World} {x : SV} {u : Value} {c : List SV} (h : cellsOf x = some c) (hr : SRep cx w x u) :
    ∃ c', u.cells = ⟨c'⟩ ∧ SRepL cx w c c' ∧ ∀ v ∈ c', v.oneCell' = true := by
  by_cases hag : ∃ cs, x = .agg cs
  · obtain ⟨cs, rfl⟩ := hag
    simp only [cellsOf] at h
    cases ha : allCells cs with
    | false => simp [ha] at h
    | true =>
      simp only [ha, cond_true, Option.some.injEq] at h; subst h
      simp only [SRep] at hr
      obtain ⟨c', rfl, hr⟩ := hr
      exact ⟨c', rfl, hr, one_of_all ha hr⟩
  · have e : cellsOf x = (bif isCell x then some [x] else none) := by
      cases x <;> first | rfl | exact absurd ⟨_, rfl⟩ hag
    rw [e] at h
    cases hi : isCell x with
    | false => simp [hi] at h
    | true =>
      simp only [hi, cond_true, Option.some.injEq] at h; subst h
      have h1 := one_of_isCell hi hr
      exact ⟨[u], cells_of_one h1, by simp only [SRepL]; exact ⟨hr, trivial⟩, fun v hv => by simp at hv; subst hv; exact h1⟩

/-! ### making -/
theorem OpOK0.new {P : Program} {o : Oper} {s : SS} {v : SV} {so : SO}
    (h : ∀ (cx : Cx) (w : World) (a : Act), Gam cx s.h w → TRep cx w s.t a.tmps → ∃ (v' : Value) (w0 : World) (ob : Obj) (ln cp : Nat) (nl : Bool) (rs : Nat), (w0.heap = w.heap ∧ w0.os = w.os ∧ w0.output = w.output ∧ ∃ c t, ob = .cells c t (0, 0)) ∧
      (execOp a.eval o).run P w = .ok (.value v') { w0 with heap := w0.heap.push ob } ∧
      (∀ cx' w', cx' = cx.ext w.heap.size ln cp nl rs → w' = { w0 with heap := w0.heap.push ob } → Grow0 cx w cx' w' → ORep cx' w' cx.n so ∧ SRep cx' w' v v')) :
    OpOK0 P o s v ⟨s.t, s.h ++ [so]⟩ := by
  intro cx w a hg ht next Q hk
  obtain ⟨v', w0, ob, ln, cp, nl, rs, ⟨hh, hh1, hh2, hob'⟩, hr, hb⟩ := h cx w a hg ht
  have hob : NoFrz ob := .inl hob'
  obtain ⟨hg0, g0⟩ := Gam.world hg (w' := w0) hh hh1 hh2
  have e : w0.heap.size = w.heap.size := by rw [hh]
  have gr : Grow0 cx w (cx.ext w.heap.size ln cp nl rs) { w0 with heap := w0.heap.push ob } := g0.trans (Grow.ext cx w0 ob w.heap.size ln cp nl rs hg0.fzlt hob)
  obtain ⟨h1, h2⟩ := hb _ _ rfl rfl gr
  have hp := Gam.push hg0 so ob ln cp nl rs hob (by rw [e]; exact h1)
  rw [e] at hp
  unfold Oper.wp
  rw [hr, Oper.upon_value]
  exact hk _ _ v' gr h2 (ht.grow gr) hp.1

theorem zcT_sound {P : Program} {t : TypeId} {z : List SV} (h : zcT P t = some z) : ∃ i zv c', P.info? t = some i ∧ i.zero = some zv ∧ zv.cells = ⟨c'⟩ ∧ z.length = szT P t ∧ i.size = szT P t ∧
    ∀ cx w, SRepL cx w z c' ∧ ∀ v ∈ c', v.oneCell' = true := by
  unfold zcT zT at h
  cases hi : P.info? t with
  | none => simp [hi] at h
  | some i =>
    cases hz : i.zero with
    | none => simp [hi, hz] at h
    | some zv =>
      simp only [hi, hz] at h
      cases hc : cellsOf (cst zv) with
      | none => simp [hc] at h
      | some c =>
        simp only [hc] at h
        cases hb : Nat.beq c.length (szT P t) with
        | false => simp [hb] at h
        | true =>
          simp only [hb, cond_true, Option.some.injEq] at h; subst h
          have hs : ∀ cx w, ∃ c', zv.cells = ⟨c'⟩ ∧ SRepL cx w c c' ∧ ∀ v ∈ c', v.oneCell' = true := fun cx w => cellsOf_sound hc (SRep.cst zv)
          refine ⟨i, zv, zv.cells.toList, rfl, hz, by simp, Nat.eq_of_beq_eq_true hb, by simp [szT, hi], fun cx w => ?_⟩
          obtain ⟨c', e, h1, h2⟩ := hs cx w
          rw [e]; exact ⟨h1, h2⟩

theorem snd_newc {P : Program} {o : Oper} {t : TypeId} {s : SS} {z : List SV} (ho : o.op = .alloc t) (hz : zcT P t = some z) :
    OpOK0 P o s (.ptr s.h.length 0) ⟨s.t, s.h ++ [.cells t z]⟩ := by
  refine OpOK0.new fun cx w a hg ht => ?_
  obtain ⟨i, zv, c', hi, hzv, hc, _, _, hr⟩ := zcT_sound hz
  refine ⟨.pointer (some (ad w.heap.size 0)), w, .cells zv.cells t, 0, 0, false, 0, ⟨rfl, rfl, rfl, _, _, rfl⟩, ?_, fun cx' w' e1 e2 _ => ?_⟩
  · simp [execOp, ho, Instr.alloc, zeroValue, typeInfo, hi, hzv, newVar, newRow, ad]
  · subst e1; subst e2
    refine ⟨⟨t, c', by simp [Cx.ext, hc], (hr _ _).1⟩, ?_⟩
    simp only [SRep, Cx.ext, hg.n]; simp [← hg.n]

theorem snd_box {P : Program} {o : Oper} {t : TypeId} {x : Operand} {y : CA} {s : SS} {c : List SV} (ho : o.op = .box t x) (hc : coA x = some y) (hz : cellsOf (ev s.t y) = some c) :
    OpOK0 P o s (.ptr s.h.length 0) ⟨s.t, s.h ++ [.cells t c]⟩ := by
  refine OpOK0.new fun cx w a hg ht => ?_
  obtain ⟨c', e, hr, _⟩ := cellsOf_sound hz (eval_coA hc ht)
  refine ⟨.pointer (some (ad w.heap.size 0)), w, .cells (a.eval x).cells t, 0, 0, false, 0, ⟨rfl, rfl, rfl, _, _, rfl⟩, ?_, fun cx' w' e1 e2 gr => ?_⟩
  · simp [execOp, ho, Instr.box, newVar, newRow, ad]
  · refine ⟨⟨t, c', by subst e1; subst e2; simp [Cx.ext, e], hr.grow gr⟩, ?_⟩
    subst e1; subst e2
    simp only [SRep, Cx.ext, hg.n]; simp [← hg.n]

/-! ### writing -/
theorem SRepL.toD {cx : Cx} {w : World} : ∀ {ys : List SV} {ds : List DV} {vs : List Value}, asDs ys = some ds → SRepL cx w ys vs → ds.length = vs.length ∧ ∀ j, j < ds.length → ∃ v, vs[j]? = some v ∧ DRep cx.fz w (ds.getD j (.v undef)) v
  | [], ds, [], h, _ => by simp [asDs] at h; subst h; simp
  | x :: r, ds, v :: vs, h, hr => by
    cases x with
    | d x =>
      simp only [asDs] at h
      split at h
      · rename_i l hl
        simp only [Option.some.injEq] at h; subst h
        simp only [SRepL, SRep] at hr
        obtain ⟨h1, h2⟩ := SRepL.toD hl hr.2
        refine ⟨by simp [h1], fun j hj => ?_⟩
        cases j with
        | zero => exact ⟨v, rfl, by simpa using hr.1⟩
        | succ j => simpa using h2 j (by simpa using hj)
      · simp at h
    | _ => simp [asDs] at h
  | [], _, _ :: _, _, h => by simp [SRepL] at h
  | _ :: _, _, [], _, h => by simp [SRepL] at h

theorem frz_sound {cx : Cx} {h h1 : SH} {w : World} (g : Gam cx h w) {x y : SV} {u : Value} (hx : SRep cx w x u) (hf : frz h x = some (y, h1)) :
    ∃ cx1, Gam cx1 h1 w ∧ Grow0 cx w cx1 w ∧ SRep cx1 w y u ∧ cx1.th = cx.th ∧ cx1.nl = cx.nl := by
  cases x with
  | own l =>
    simp only [frz] at hf
    simp only [SRep] at hx
    obtain ⟨hn, rfl⟩ := hx
    have ho := g.obj l
    split at hf
    · rename_i t k xs hg
      simp only [Option.some.injEq, Prod.mk.injEq] at hf; obtain ⟨rfl, rfl⟩ := hf
      rw [hg] at ho
      obtain ⟨hln, hrs, hcp, hz, hh⟩ := ho
      cases hnl : cx.nl l with
      | true =>
        refine ⟨cx, g.killNil (by simp [liv, hg, hnl]), Grow.refl _ _ _, ?_, rfl, rfl⟩
        have := hz hnl
        have h0 : xs.length = 0 := by omega
        simp only [SRep, DRep, cond_true, hln]
        exact ⟨_, _, rfl, hcp, fun hne => absurd (List.length_eq_zero_iff.1 h0) hne⟩
      | false =>
        have hv : liv cx h l := by simp [liv, hg, hnl]
        obtain ⟨hG, gr⟩ := g.kill hv
        obtain ⟨t', c', hb, hs, hr⟩ := hh hnl
        refine ⟨_, hG, gr, ?_, rfl, rfl⟩
        simp only [SRep, DRep, cond_false, hln]
        refine ⟨_, _, rfl, hcp, fun _ => ⟨cx.th l, 0, rfl, .inr rfl, fun i hi => ?_⟩⟩
        simp [World.cell?, ad, hb, hr i hi]
    · rename_i t sz n f hg
      simp only [Option.some.injEq, Prod.mk.injEq] at hf; obtain ⟨rfl, rfl⟩ := hf
      rw [hg] at ho
      obtain ⟨hln, hrs, hcp, hz, hh⟩ := ho
      cases hnl : cx.nl l with
      | true =>
        refine ⟨cx, g.killNil (by simp [liv, hg, hnl]), Grow.refl _ _ _, ?_, rfl, rfl⟩
        have := hz hnl
        simp only [SRep, DRep, cond_true, hln]
        exact ⟨_, _, rfl, hcp, fun hne => absurd (by omega) hne⟩
      | false =>
        have hv : liv cx h l := by simp [liv, hg, hnl]
        obtain ⟨hG, gr⟩ := g.kill hv
        obtain ⟨t', c', hb, hs, hr⟩ := hh hnl
        refine ⟨_, hG, gr, ?_, rfl, rfl⟩
        simp only [SRep, DRep, cond_false, hln]
        refine ⟨_, _, rfl, hcp, fun _ => ⟨cx.th l, 0, rfl, .inr rfl, fun i hi j hj => ?_⟩⟩
        obtain ⟨x, hx, hd⟩ := hr i hi j hj
        exact ⟨x, by simp [World.cell?, ad, hb, hx], DRep.mono gr.fz gr.samef _ _ hd⟩
    · simp at hf
  | _ =>
    simp only [frz, Option.some.injEq, Prod.mk.injEq] at hf; obtain ⟨rfl, rfl⟩ := hf
    exact ⟨cx, g, Grow.refl _ _ _, hx, rfl, rfl⟩
end Go.Sx
