/- SlabClaims: what a pick keeps. Plain Lean. -/
import Derived.Test.YtljmncdlehinnaaT2
import Derived.Test.YtljmncdlehinnaaE1
import Derived.Test.YtljmncdlehinnaaE1
import Derived.Test.YtljmncdlehinnaaT2
import Derived.Test.YtljmncdlehinnaaE1
import Derived.Test.YtljmncdlehinnaaRows
import Derived.KernelRfl
import Derived.Test.YtljmncdlehinnaaT2
import Derived.Test.YtljmncdlehinnaaT2
import Derived.Test.YtljmncdlehinnaaRw
import Derived.Test.YtljmncdlehinnaaT2
import Derived.Test.YtljmncdlehinnaaT2
import Derived.Test.YtljmncdlehinnaaR1
set_option linter.all false
set_option linter.unusedVariables false
set_option linter.unusedSimpArgs false
set_option linter.unnecessarySimpa false
namespace Go.Sx.Pr
open Go Go.Sx Go.Sx.Md Go.Proofs
set_option maxRecDepth 100000

def gI (l : List Int) (j : Int) : Int := l.getD j.toNat 0
theorem gI_set {l : List Int} {j k x : Int} (hj : 0 ≤ j) (hk : 0 ≤ k) (hl : j < l.length) : gI (l.set j.toNat x) k = if k = j then x else gI l k := by
  unfold gI
  rw [get_set]
  by_cases h : k = j
  · subst h; rw [if_pos ⟨rfl, by omega⟩, if_pos rfl]
  · rw [if_neg (by omega), if_neg h]

/-- What the law makes of a step. -/
def sw1 (c : Cf) (w was mine way : Int) (m : Mm) (V0 : Int) (lf hs wh : List Int) (y : Wk) : Option (List Int × List Int × List Int × Wk) :=
  if way = 0 then some (lf, hs, wh, y)
  else if was = 34 then
    (if 0 ≤ y.J ∧ y.J < c.b ∧ gI hs y.J = 0 ∧ (gI wh y.J = 0 ∨ wU (gI wh y.J + 2) ≤ y.E) then some (lf.set w.toNat c.c, hs.set y.J.toNat (w64' (w + 1)), wh, { y with line := 36, slab := y.J }) else none)
  else if was = 33 then some (lf, hs, wh, { y with line := 33, J := 0, E := mLoadV m 0 })
  else if was = 37 then some (lf, hs, wh, { y with line := 30, K := w64' (w64' (mine * c.c) + gI lf w) })
  else if was = 30 then
    (if w64' (gI lf w - 1) = 0 then none else some (lf.set w.toNat (w64' (gI lf w - 1)), hs, wh, { y with line := 30, K := w64' (w64' (mine * c.c) + gI (lf.set w.toNat (w64' (gI lf w - 1))) w) }))
  else if was = 32 then
    (if gI lf w = 1 ∧ 0 ≤ mine ∧ mine < c.b ∧ (wordV c m.ws mine).1 % 16 = 3 ∧ gI hs mine = w64' (w + 1) then some (lf.set w.toNat 0, hs.set mine.toNat 0, wh.set mine.toNat V0, { y with line := 33, J := 0, E := mLoadV m 0 }) else none)
  else none

/-- A slab that nobody owns. -/
def restV (t : Int) : Int := if t = 0 then 0 else pSlab 3 0 t
def OJ (c : Cf) (m : Mm) (hs lf : List Int) (k : Nat) (x : Wk) : Prop :=
  0 ≤ x.slab ∧ x.slab < c.b ∧ gI hs x.slab = (k : Int) + 1 ∧
    ((x.line = 36 ∧ mLoadV m (adr c 2 x.slab) = 1 ∧ gI lf k = c.c) ∨ (x.line = 37 ∧ mLoadV m (adr c 2 x.slab) = 1 ∧ x.V = 1 ∧ gI lf k = c.c) ∨
     (x.line = 30 ∧ 1 ≤ gI lf k ∧ gI lf k ≤ c.c ∧ mLoadV m (adr c 2 x.slab) = 2 + 16 * (c.c - gI lf k) ∧ x.K = x.slab * c.c + gI lf k) ∨
     (x.line = 31 ∧ gI lf k = 1 ∧ mLoadV m (adr c 2 x.slab) = 2 + 16 * c.c ∧ x.K = x.slab * c.c + 1) ∨
     (x.line = 32 ∧ gI lf k = 1 ∧ mLoadV m (adr c 2 x.slab) = 2 + 16 * c.c ∧ x.K = x.slab * c.c + 1 ∧ 2 ≤ x.V ∧ x.V ≤ mLoadV m 0))
def WJ (c : Cf) (m : Mm) (hs lf : List Int) (k : Nat) (x : Wk) : Prop :=
  (x.line = 33 ∧ 0 ≤ x.J ∧ x.J < c.b) ∨ (x.line = 34 ∧ 0 ≤ x.J ∧ x.J < c.b ∧ readyV x.V x.E = true) ∨ OJ c m hs lf k x

structure JI (c : Cf) (n : Nat) (i : Int) (m : Mm) (a : Nat → Wk) (lf hs wh : List Int) : Prop where
  M : MC c m
  hn : c.a = n
  l1 : lf.length = n
  l2 : (hs.length : Int) = c.b
  l3 : (wh.length : Int) = c.b
  ep : 2 ≤ mLoadV m 0 ∧ mLoadV m 0 ≤ 2 + i
  ok : ∀ k, k < n → okW (a k) = true
  fr : ∀ j, 0 ≤ j → j < c.b → gI hs j = 0 → mLoadV m (adr c 2 j) = restV (gI wh j) ∧ 0 ≤ gI wh j ∧ gI wh j ≤ mLoadV m 0
  ow : ∀ j, 0 ≤ j → j < c.b → gI hs j = 0 ∨ ∃ k, k < n ∧ gI hs j = (k : Int) + 1 ∧ (a k).slab = j ∧ OJ c m hs lf k (a k)
  w : ∀ k, k < n → WJ c m hs lf k (a k)

section
variable {c : Cf} {n : Nat} {i : Int} {m m' : Mm} {a : Nat → Wk} {lf hs wh lf' hs' wh' : List Int} {w : Nat} {y : Wk}

theorem OJ.line {x : Wk} {k : Nat} (h : OJ c m hs lf k x) : x.line ≠ 33 ∧ x.line ≠ 34 := by
  obtain ⟨_, _, _, q⟩ := h
  rcases q with q | q | q | q | q <;> have := q.1 <;> constructor <;> omega
theorem OJ.other {x : Wk} {k : Nat} (h : OJ c m hs lf k x) (h0 : mLoadV m' 0 = mLoadV m 0) (hW : mLoadV m' (adr c 2 x.slab) = mLoadV m (adr c 2 x.slab)) (hH : gI hs' x.slab = gI hs x.slab) (hL : gI lf' k = gI lf k) : OJ c m' hs' lf' k x := by
  obtain ⟨q1, q2, q3, q⟩ := h
  refine ⟨q1, q2, hH.trans q3, ?_⟩
  rw [hW, hL, h0]; exact q

theorem JI.next (h : JI c n i m a lf hs wh) (hw : w < n) (s : Int) (hM : MC c m') (h0 : mLoadV m' 0 = mLoadV m 0)
    (hW : ∀ j, 0 ≤ j → j < c.b → j ≠ s → mLoadV m' (adr c 2 j) = mLoadV m (adr c 2 j))
    (hH : ∀ j, 0 ≤ j → j < c.b → j ≠ s → gI hs' j = gI hs j ∧ gI wh' j = gI wh j)
    (l1 : lf'.length = lf.length) (l2 : hs'.length = hs.length) (l3 : wh'.length = wh.length)
    (hL : ∀ k : Nat, k < n → k ≠ w → gI lf' k = gI lf k) (hO : 0 ≤ s → s < c.b → ∀ k : Nat, k ≠ w → gI hs s ≠ (k : Int) + 1)
    (hN : ∀ j, 0 ≤ j → j < c.b → j ≠ s → gI hs j ≠ (w : Int) + 1) (hy : okW y = true) (hwj : WJ c m' hs' lf' w y)
    (hfr : 0 ≤ s → s < c.b → gI hs' s = 0 → mLoadV m' (adr c 2 s) = restV (gI wh' s) ∧ 0 ≤ gI wh' s ∧ gI wh' s ≤ mLoadV m 0)
    (how : 0 ≤ s → s < c.b → gI hs' s = 0 ∨ (gI hs' s = (w : Int) + 1 ∧ y.slab = s ∧ OJ c m' hs' lf' w y)) : JI c n i m' (upd a w y) lf' hs' wh' := by
  refine ⟨hM, h.hn, l1.trans h.l1, by rw [l2]; exact h.l2, by rw [l3]; exact h.l3, by rw [h0]; exact h.ep, fun k hk => ?_, fun j j0 j1 hj => ?_, fun j j0 j1 => ?_, fun k hk => ?_⟩
  · by_cases e : k = w
    · subst e; rw [upd_same]; exact hy
    · rw [upd_ne e]; exact h.ok k hk
  · by_cases e : j = s
    · subst e; rw [h0]; exact hfr j0 j1 hj
    · obtain ⟨e1, e2⟩ := hH j j0 j1 e
      rw [e2, h0, hW j j0 j1 e]
      exact h.fr j j0 j1 (e1 ▸ hj)
  · by_cases e : j = s
    · subst e
      rcases how j0 j1 with q | ⟨q1, q2, q3⟩
      · exact .inl q
      · exact .inr ⟨w, hw, q1, by rw [upd_same]; exact q2, by rw [upd_same]; exact q3⟩
    · obtain ⟨e1, e2⟩ := hH j j0 j1 e
      rcases h.ow j j0 j1 with q | ⟨k, hk, q1, q2, q3⟩
      · exact .inl (e1.trans q)
      · have kw : k ≠ w := by intro z; subst z; exact hN j j0 j1 e q1
        refine .inr ⟨k, hk, e1.trans q1, by rw [upd_ne kw]; exact q2, ?_⟩
        rw [upd_ne kw]
        exact q3.other h0 (by rw [q2]; exact hW j j0 j1 e) (by rw [q2]; exact e1) (hL k hk kw)
  · by_cases e : k = w
    · subst e; rw [upd_same]; exact hwj
    · rw [upd_ne e]
      rcases h.w k hk with q | q | q
      · exact .inl q
      · exact .inr (.inl q)
      · have q' := q
        obtain ⟨q1, q2, q3, _⟩ := q'
        have es : (a k).slab ≠ s := by intro z; subst z; exact hO q1 q2 k e q3
        exact .inr (.inr (q.other h0 (hW _ q1 q2 es) (hH _ q1 q2 es).1 (hL k hk e)))

/-- What a step leaves. -/
def AftB (c : Cf) (n : Nat) (i : Int) (w : Nat) (m : Mm) (a : Nat → Wk) (lf hs wh : List Int) : Prop :=
  ∃ lf' hs' wh' y', sw1 c w (a w).line (a w).slab (stepB m (a w)).way (stepB m (a w)).m (a w).V lf hs wh (stepB m (a w)).x = some (lf', hs', wh', y') ∧ (stepB m (a w)).ok = true ∧ JI c n i (stepB m (a w)).m (upd a w y') lf' hs' wh'

theorem JI.free (h : JI c n i m a lf hs wh) (hl : (a w).line = 33 ∨ (a w).line = 34) : ∀ j, 0 ≤ j → j < c.b → gI hs j ≠ (w : Int) + 1 := by
  intro j j0 j1 e
  rcases h.ow j j0 j1 with q | ⟨k, hk, q1, q2, q3⟩
  · omega
  · have : k = w := by omega
    subst this
    have := q3.line
    rcases hl with hl | hl <;> omega
theorem JI.mine (h : JI c n i m a lf hs wh) {s : Int} (hs' : (a w).slab = s) : ∀ j, 0 ≤ j → j < c.b → j ≠ s → gI hs j ≠ (w : Int) + 1 := by
  intro j j0 j1 e z
  rcases h.ow j j0 j1 with q | ⟨k, hk, q1, q2, q3⟩
  · omega
  · have : k = w := by omega
    subst this
    exact e (q2.symm.trans hs')
theorem adr2_in (hc : chkC c = 0) {j : Int} (j0 : 0 ≤ j) (j1 : j < c.b) : adr c 2 j = 3 + c.a + j := by rw [adr2 hc, if_pos ⟨j0, j1⟩]
theorem adr2_ne (hc : chkC c = 0) {j s : Int} (j0 : 0 ≤ j) (j1 : j < c.b) (s0 : 0 ≤ s) (s1 : s < c.b) (e : j ≠ s) : adr c 2 s ≠ adr c 2 j := by
  rw [adr2_in hc j0 j1, adr2_in hc s0 s1]; omega
theorem MC.slab (h : MC c m) {j : Int} (j0 : 0 ≤ j) (j1 : j < c.b) : Mm.ok m (adr c 2 j) = true := by
  have hc := h.chk
  obtain ⟨⟨a1, a2⟩, ⟨b1, b2⟩, _⟩ := chk_zero hc
  have e := szC_eq hc
  have := h.sz
  rw [okA, adr2_in hc j0 j1]
  unfold sizeN at e
  omega
theorem wordV_ld (h : MC c m) {j : Int} (j0 : 0 ≤ j) (j1 : j < c.b) : (wordV c m.ws j).1 = mLoadV m (adr c 2 j) := by
  rw [wordV_yes h.chk h.sz j0 j1]
  unfold mLoadV
  rw [h.slab j0 j1, cond_true, adr2_in h.chk j0 j1]; rfl
theorem home_in (hc : chkC c = 0) {s L K : Int} (s0 : 0 ≤ s) (s1 : s < c.b) (l0 : 1 ≤ L) (l1 : L ≤ c.c) (hK : K = s * c.c + L) : adrH c K = adr c 2 s := by
  obtain ⟨_, ⟨b1, b2⟩, ⟨c1, c2⟩, _⟩ := chk_zero hc
  have hm : 0 ≤ s * c.c := Int.mul_nonneg s0 (by omega)
  have hm2 : s * c.c ≤ (c.b - 1) * c.c := Int.mul_le_mul_of_nonneg_right (by omega) (by omega)
  have hm4 : c.b * c.c ≤ 8 * c.c := Int.mul_le_mul_of_nonneg_right (by omega) (by omega)
  have hm3 : (c.b - 1) * c.c = c.b * c.c - c.c := by rw [Int.sub_mul]; omega
  have e : w64' (K - 1) = K - 1 := w64_id (by omega) (by omega)
  unfold adrH homeV
  rw [e, decide_eq_true (show 0 ≤ K - 1 by omega), decide_eq_true (show K - 1 < c.b * c.c by omega), show (chkC c == 0) = true by rw [hc]; rfl]
  simp only [Bool.and_self, cond_true]
  congr 1
  rw [hK, show s * c.c + L - 1 = (L - 1) + s * c.c by omega, Int.add_mul_ediv_right _ _ (by omega), Int.ediv_eq_zero_of_lt (by omega) (by omega)]
  omega

theorem sB_30 {x : Wk} (hl : x.line = 30) : stepB m x = bif wU (mLoadV m (adrH m.c x.K) + 16) / 16 % 4096 == m.c.c then ⟨mAdd m (adrH m.c x.K) 16, { x with line := 31 }, 0, true⟩ else ⟨mAdd m (adrH m.c x.K) 16, { x with line := 0, K := 0 }, 1, true⟩ := by
  unfold stepB; rw [if_pos hl]
theorem sB_31 {x : Wk} (hl : x.line = 31) : stepB m x = ⟨mLoad m 0, { x with V := mLoadV m 0, line := 32 }, 0, true⟩ := by
  unfold stepB; rw [if_neg (by omega), if_pos hl]
theorem sB_32 {x : Wk} (hl : x.line = 32) : stepB m x = ⟨mStore m (adrH m.c x.K) (pSlab 3 0 x.V), { x with line := 0, K := 0 }, 1, true⟩ := by
  unfold stepB; rw [if_neg (by omega), if_neg (by omega), if_pos hl]
theorem sB_33 {x : Wk} (hl : x.line = 33) : stepB m x = bif readyV (mLoadV m (adr m.c 2 x.J)) x.E then ⟨mLoad m (adr m.c 2 x.J), { x with V := mLoadV m (adr m.c 2 x.J), line := 34 }, 0, true⟩
    else bif decide (m.c.b - 1 ≤ x.J) then ⟨mLoad m (adr m.c 2 x.J), { x with V := mLoadV m (adr m.c 2 x.J), line := 0, J := w64' (x.J + 1) }, 2, true⟩
    else ⟨mLoad m (adr m.c 2 x.J), { x with V := mLoadV m (adr m.c 2 x.J), J := w64' (x.J + 1) }, 0, true⟩ := by
  unfold stepB; rw [if_neg (by omega), if_neg (by omega), if_neg (by omega), if_pos hl]
theorem sB_34 {x : Wk} (hl : x.line = 34) : stepB m x = bif mCasB m (adr m.c 2 x.J) x.V then ⟨mCas m (adr m.c 2 x.J) x.V 1, { x with line := 0 }, 1, true⟩
    else ⟨mCas m (adr m.c 2 x.J) x.V 1, { x with line := 33 }, 0, true⟩ := by
  unfold stepB; rw [if_neg (by omega), if_neg (by omega), if_neg (by omega), if_neg (by omega), if_pos hl]
theorem sB_36 {x : Wk} (hl : x.line = 36) : stepB m x = bif mLoadV m (adr m.c 2 x.slab) % 16 == 1 then ⟨mLoad m (adr m.c 2 x.slab), { x with V := mLoadV m (adr m.c 2 x.slab), line := 37 }, 0, true⟩
    else ⟨mLoad m (adr m.c 2 x.slab), { x with V := mLoadV m (adr m.c 2 x.slab), line := 0 }, 2, true⟩ := by
  unfold stepB; rw [if_neg (by omega), if_neg (by omega), if_neg (by omega), if_neg (by omega), if_neg (by omega), if_neg (by omega), if_pos hl]
theorem sB_37 {x : Wk} (hl : x.line = 37) : stepB m x = bif mCasB m (adr m.c 2 x.slab) x.V then ⟨mCas m (adr m.c 2 x.slab) x.V 2, { x with line := 0 }, 1, true⟩
    else ⟨mCas m (adr m.c 2 x.slab) x.V 2, { x with line := 36 }, 0, true⟩ := by
  unfold stepB; rw [if_neg (by omega), if_neg (by omega), if_neg (by omega), if_neg (by omega), if_neg (by omega), if_neg (by omega), if_neg (by omega), if_pos hl]

theorem MC.store' (h : MC c m) (a v : Int) (hv : uB v = true) : MC c (mStore m a v) := ⟨okM_store h.ok hv, h.hc, by rw [show (mStore m a v).ws = mSet m (Mm.ok m a) a v from rfl, len_mSet]; exact h.sz⟩
theorem MC.add (h : MC c m) (a v : Int) : MC c (mAdd m a v) := ⟨okM_add h.ok, h.hc, by rw [show (mAdd m a v).ws = mSet m (Mm.ok m a) a _ from rfl, len_mSet]; exact h.sz⟩

theorem sw1_0 {was mine V0 : Int} {w : Int} : sw1 c w was mine 0 m V0 lf hs wh y = some (lf, hs, wh, y) := by unfold sw1; rw [if_pos rfl]

/-- A step that changes no slab's word and no row, of a worker without a slab. -/
theorem JI.quiet (h : JI c n i m a lf hs wh) (hw : w < n) (hl : (a w).line = 33 ∨ (a w).line = 34) (hM : MC c m') (hld : ∀ b, mLoadV m' b = mLoadV m b) (hy : okW y = true) (hwj : WJ c m' hs lf w y) : JI c n i m' (upd a w y) lf hs wh :=
  h.next hw (-1) hM (hld 0) (fun j _ _ _ => hld _) (fun j _ _ _ => ⟨rfl, rfl⟩) rfl rfl rfl (fun k _ _ => rfl) (fun q => by omega) (fun j j0 j1 _ => h.free hl j j0 j1) hy hwj (fun q => by omega) (fun q => by omega)
/-- A step of a slab's owner. -/
theorem JI.own (h : JI c n i m a lf hs wh) (hw : w < n) {s : Int} (s0 : 0 ≤ s) (s1 : s < c.b) (hsl : (a w).slab = s) (hh : gI hs s = (w : Int) + 1) (hM : MC c m') (h0 : mLoadV m' 0 = mLoadV m 0)
    (hW : ∀ j, 0 ≤ j → j < c.b → j ≠ s → mLoadV m' (adr c 2 j) = mLoadV m (adr c 2 j)) (l1 : lf'.length = lf.length) (hL : ∀ k : Nat, k < n → k ≠ w → gI lf' k = gI lf k)
    (hy : okW y = true) (ho : OJ c m' hs lf' w y) (hys : y.slab = s) : JI c n i m' (upd a w y) lf' hs wh :=
  h.next hw s hM h0 hW (fun j _ _ _ => ⟨rfl, rfl⟩) l1 rfl rfl hL (fun _ _ k hk => by rw [hh]; omega) (h.mine hsl) hy (.inr (.inr ho)) (fun _ _ q => by rw [hh] at q; omega) (fun _ _ => .inr ⟨hh, hys, ho⟩)

theorem JI.aft (h : JI c n i m a lf hs wh) (hi : i ≤ 1000) (hw : w < n) : AftB c n i w m a lf hs wh := by
  have hc := h.M.chk
  obtain ⟨⟨a1, a2⟩, ⟨b1, b2⟩, ⟨c1, c2⟩, _⟩ := chk_zero hc
  have hx := h.ok w hw
  have hu := okM_u h.M.ok
  obtain ⟨p1, p2, _, p4, p5⟩ := presB (m := m) (x := a w) h.M.ok hx
  have hep := h.ep
  have hn8 : n ≤ 8 := by have := h.hn; omega
  have w1 : w64' ((w : Int) + 1) = (w : Int) + 1 := w64_id (by omega) (by omega)
  unfold AftB
  rcases h.w w hw with ⟨hl, j0, j1⟩ | ⟨hl, j0, j1, hr⟩ | ho
  · -- 33
    rw [sB_33 hl, h.M.hc] at p2 ⊢
    obtain ⟨W, hW⟩ : ∃ W, W = mLoadV m (adr c 2 (a w).J) := ⟨_, rfl⟩
    rw [← hW] at p2 ⊢
    have hWu : uB W = true := by rw [hW]; exact uB_load hu
    have j2 : w64' ((a w).J + 1) = (a w).J + 1 := w64_id (by omega) (by omega)
    cases hrd : readyV W (a w).E with
    | true =>
      rw [hrd, cond_true] at p2
      exact ⟨_, _, _, _, sw1_0, rfl, h.quiet hw (.inl hl) (h.M.load _) (fun _ => rfl) p2 (.inr (.inl ⟨rfl, j0, j1, hrd⟩))⟩
    | false =>
      rw [hrd, cond_false] at p2
      by_cases hlast : c.b - 1 ≤ (a w).J
      · rw [decide_eq_true hlast, cond_true] at p2
        rw [decide_eq_true hlast, cond_false, cond_true]
        refine ⟨lf, hs, wh, _, ?_, rfl, h.quiet (y := { a w with V := W, line := 33, J := 0, E := mLoadV m 0 }) hw (.inl hl) (h.M.load _) (fun _ => rfl) ?_ (.inl ⟨rfl, by show (0 : Int) ≤ 0; omega, by show (0 : Int) < c.b; omega⟩)⟩
        · unfold sw1; rw [if_neg (show ¬ ((2 : Int) = 0) by decide), hl, if_neg (by decide), if_pos rfl]; rfl
        · obtain ⟨b1, b2, b3, b4, b5, b6, b7, b8, b9, b10, b11, b12⟩ := okW_all hx
          simp only [okW, b1, b2, b3, b4, b5, b6, b7, b8, b9, b10, b11, b12, hWu, uB_load hu, Bool.and_self]
      · rw [decide_eq_false hlast, cond_false] at p2
        rw [decide_eq_false hlast, cond_false, cond_false]
        exact ⟨_, _, _, _, sw1_0, rfl, h.quiet hw (.inl hl) (h.M.load _) (fun _ => rfl) p2 (.inl ⟨hl, by show 0 ≤ w64' ((a w).J + 1); rw [j2]; omega, by show w64' ((a w).J + 1) < c.b; rw [j2]; omega⟩)⟩
  · -- 34
    have hok := h.M.slab j0 j1
    rw [sB_34 hl, h.M.hc] at p2 ⊢
    cases hcs : mCasB m (adr c 2 (a w).J) (a w).V with
    | false =>
      rw [hcs, cond_false] at p2
      rw [cond_false]
      exact ⟨_, _, _, _, sw1_0, rfl, h.quiet hw (.inr hl) (h.M.cas _ _ _ uB_one) (fun b => by rw [ld_cas, if_neg (by rw [hcs]; simp)]) p2 (.inl ⟨rfl, j0, j1⟩)⟩
    | true =>
      rw [hcs, cond_true] at p2
      rw [cond_true]
      have hV : mLoadV m (adr c 2 (a w).J) = (a w).V := (casB_iff hok).1 hcs
      obtain ⟨J, hJ⟩ : ∃ J, J = (a w).J := ⟨_, rfl⟩
      have hrd := hr
      simp only [readyV, Bool.or_eq_true, Bool.and_eq_true, beq_iff_eq, decide_eq_true_eq] at hrd
      rw [← hV, ← hJ] at hrd
      rw [← hJ] at j0 j1 hok hV hcs p2
      have hfree : gI hs J = 0 := by
        rcases h.ow J j0 j1 with q | ⟨k, hk, q1, q2, q3⟩
        · exact q
        · obtain ⟨q3, q4, q5, q6⟩ := q3
          rw [q2] at q6
          rcases q6 with q | q | q | q | q
          · have := q.2.1; omega
          · have := q.2.1; omega
          · have := q.2.2.2.1; omega
          · have := q.2.2.1; omega
          · have := q.2.2.1; omega
      obtain ⟨f1, f2, f3⟩ := h.fr J j0 j1 hfree
      have hwh : gI wh J = 0 ∨ wU (gI wh J + 2) ≤ (a w).E := by
        by_cases e : gI wh J = 0
        · exact .inl e
        · right
          rw [wU_id (by omega) (by omega)]
          rw [f1] at hrd
          unfold restV at hrd
          rw [if_neg e] at hrd
          unfold pSlab at hrd
          omega
      have hWJ : mLoadV (mCas m (adr c 2 J) (a w).V 1) (adr c 2 J) = 1 := by rw [ld_cas, if_pos ⟨hcs, rfl⟩]
      have s1' : (hs.set J.toNat ((w : Int) + 1)).length = hs.length := List.length_set
      have gJ : gI (hs.set J.toNat ((w : Int) + 1)) J = (w : Int) + 1 := by rw [gI_set j0 j0 (by rw [h.l2]; exact j1), if_pos rfl]
      have gL : gI (lf.set w c.c) w = c.c := by rw [show lf.set w c.c = lf.set ((w : Int)).toNat c.c by rw [Int.toNat_natCast], gI_set (by omega) (by omega) (by rw [h.l1]; omega), if_pos rfl]
      refine ⟨lf.set w c.c, hs.set J.toNat ((w : Int) + 1), wh, { a w with line := 36, slab := J }, ?_, rfl, ?_⟩
      · unfold sw1
        rw [if_neg (show ¬ ((1 : Int) = 0) by decide), hl, if_pos rfl]
        show (if 0 ≤ (a w).J ∧ (a w).J < c.b ∧ gI hs (a w).J = 0 ∧ (gI wh (a w).J = 0 ∨ wU (gI wh (a w).J + 2) ≤ (a w).E) then _ else _) = _
        rw [← hJ, if_pos ⟨j0, j1, hfree, hwh⟩, w1, Int.toNat_natCast]
        subst hJ; rfl
      · have ho' : OJ c (mCas m (adr c 2 J) (a w).V 1) (hs.set J.toNat ((w : Int) + 1)) (lf.set w c.c) w { a w with line := 36, slab := J } := ⟨j0, j1, gJ, .inl ⟨rfl, hWJ, gL⟩⟩
        rw [← hJ]
        refine h.next hw J (h.M.cas _ _ _ uB_one) (by rw [ld_cas, if_neg (by rw [adr2_in hc j0 j1]; omega)]) (fun j q0 q1 e => by rw [ld_cas, if_neg (by intro z; exact adr2_ne hc q0 q1 j0 j1 e z.2)])
          (fun j q0 q1 e => ⟨by rw [gI_set j0 q0 (by rw [h.l2]; exact j1), if_neg e], rfl⟩) List.length_set List.length_set rfl
          (fun k hk e => by rw [show lf.set w c.c = lf.set ((w : Int)).toNat c.c by rw [Int.toNat_natCast], gI_set (by omega) (by omega) (by rw [h.l1]; omega), if_neg (by omega)])
          (fun _ _ k hk => by rw [hfree]; omega) (fun j q0 q1 _ => h.free (.inr hl) j q0 q1) p2 (.inr (.inr ho')) (fun _ _ q => by rw [gJ] at q; omega) (fun _ _ => .inr ⟨gJ, rfl, ho'⟩)
  · obtain ⟨s0, s1, hh, q⟩ := ho
    have hok := h.M.slab s0 s1
    have hA := adr2_in hc s0 s1
    have gset : ∀ x, gI (lf.set w x) w = x := fun x => by rw [show lf.set w x = lf.set ((w : Int)).toNat x by rw [Int.toNat_natCast], gI_set (by omega) (by omega) (by rw [h.l1]; omega), if_pos rfl]
    have gne : ∀ x (k : Nat), k < n → k ≠ w → gI (lf.set w x) k = gI lf k := fun x k hk e => by rw [show lf.set w x = lf.set ((w : Int)).toNat x by rw [Int.toNat_natCast], gI_set (by omega) (by omega) (by rw [h.l1]; omega), if_neg (by omega)]
    have hsc : (a w).slab * c.c ≤ 7 * 16 ∧ 0 ≤ (a w).slab * c.c := ⟨Int.le_trans (Int.mul_le_mul_of_nonneg_right (by omega) (by omega)) (Int.mul_le_mul_of_nonneg_left (by omega) (by omega)), Int.mul_nonneg s0 (by omega)⟩
    rcases q with ⟨hl, hW, hL⟩ | ⟨hl, hW, hV, hL⟩ | ⟨hl, L0, L1, hW, hK⟩ | ⟨hl, hL, hW, hK⟩ | ⟨hl, hL, hW, hK, v0, v1⟩
    · -- 36
      rw [sB_36 hl, h.M.hc, hW] at p2 ⊢
      rw [show ((1 : Int) % 16 == 1) = true from rfl, cond_true] at p2 ⊢
      exact ⟨_, _, _, _, sw1_0, rfl, h.own hw s0 s1 rfl hh (h.M.load _) rfl (fun _ _ _ _ => rfl) rfl (fun _ _ _ => rfl) p2 ⟨s0, s1, hh, .inr (.inl ⟨rfl, hW, rfl, hL⟩)⟩ rfl⟩
    · -- 37
      have hcs : mCasB m (adr c 2 (a w).slab) (a w).V = true := (casB_iff hok).2 (hW.trans hV.symm)
      rw [sB_37 hl, h.M.hc, hcs, cond_true] at p2 ⊢
      refine ⟨lf, hs, wh, { a w with line := 30, K := (a w).slab * c.c + gI lf w }, ?_, rfl, ?_⟩
      · unfold sw1
        rw [if_neg (show ¬ ((1 : Int) = 0) by decide), hl, if_neg (by decide), if_neg (by decide), if_pos rfl, hL, w64_id (x := (a w).slab * c.c) (by omega) (by omega), w64_id (x := (a w).slab * c.c + c.c) (by omega) (by omega)]
      · refine h.own hw s0 s1 rfl hh (h.M.cas _ _ _ uB_two) (by rw [ld_cas, if_neg (by omega)]) (fun j q0 q1 e => by rw [ld_cas, if_neg (by intro z; exact adr2_ne hc q0 q1 s0 s1 e z.2)]) rfl (fun _ _ _ => rfl) hx
          ⟨s0, s1, hh, .inr (.inr (.inl ⟨rfl, by rw [hL]; omega, by rw [hL]; omega, ?_, rfl⟩))⟩ rfl
        show mLoadV _ (adr c 2 (a w).slab) = _
        rw [ld_cas, if_pos ⟨hcs, rfl⟩, hL]; omega
    · -- 30
      have hH := home_in hc s0 s1 L0 L1 hK
      have wu : wU (mLoadV m (adr c 2 (a w).slab) + 16) = 2 + 16 * (c.c - gI lf w) + 16 := by rw [hW, wU_id (by omega) (by omega)]
      have hst : mLoadV (mAdd m (adr c 2 (a w).slab) 16) (adr c 2 (a w).slab) = 2 + 16 * (c.c - gI lf w) + 16 := by rw [ld_add, if_pos ⟨hok, rfl⟩]; exact wu
      have hot : ∀ j, 0 ≤ j → j < c.b → j ≠ (a w).slab → mLoadV (mAdd m (adr c 2 (a w).slab) 16) (adr c 2 j) = mLoadV m (adr c 2 j) := fun j q0 q1 e => by rw [ld_add, if_neg (by intro z; exact adr2_ne hc q0 q1 s0 s1 e z.2)]
      have hz : mLoadV (mAdd m (adr c 2 (a w).slab) 16) 0 = mLoadV m 0 := by rw [ld_add, if_neg (by omega)]
      rw [sB_30 hl, h.M.hc, hH, wu] at p2 ⊢
      by_cases e : gI lf w = 1
      · have ec : ((2 + 16 * (c.c - gI lf w) + 16) / 16 % 4096 == c.c) = true := by rw [beq_iff_eq]; omega
        rw [ec, cond_true] at p2 ⊢
        refine ⟨_, _, _, _, sw1_0, rfl, h.own hw s0 s1 rfl hh (h.M.add _ _) hz hot rfl (fun _ _ _ => rfl) p2 ⟨s0, s1, hh, .inr (.inr (.inr (.inl ⟨rfl, e, ?_, ?_⟩)))⟩ rfl⟩
        · show mLoadV _ (adr c 2 (a w).slab) = _
          rw [hst]; omega
        · show (a w).K = (a w).slab * c.c + 1
          rw [hK, e]
      · have ec : ((2 + 16 * (c.c - gI lf w) + 16) / 16 % 4096 == c.c) = false := by
          have : (2 + 16 * (c.c - gI lf w) + 16) / 16 % 4096 ≠ c.c := by omega
          simpa using this
        rw [ec, cond_false] at p2 ⊢
        have l1 : w64' (gI lf w - 1) = gI lf w - 1 := w64_id (by omega) (by omega)
        refine ⟨lf.set w (gI lf w - 1), hs, wh, { a w with line := 30, K := (a w).slab * c.c + (gI lf w - 1) }, ?_, rfl, ?_⟩
        · unfold sw1
          rw [if_neg (show ¬ ((1 : Int) = 0) by decide), hl, if_neg (by decide), if_neg (by decide), if_neg (by decide), if_pos rfl, l1, if_neg (by omega), Int.toNat_natCast, gset, w64_id (x := (a w).slab * c.c) (by omega) (by omega), w64_id (x := (a w).slab * c.c + (gI lf w - 1)) (by omega) (by omega)]
        · refine h.own hw s0 s1 rfl hh (h.M.add _ _) hz hot List.length_set (fun k hk e => gne _ k hk e) hx ⟨s0, s1, hh, .inr (.inr (.inl ⟨rfl, by rw [gset]; omega, by rw [gset]; omega, ?_, by rw [gset]⟩))⟩ rfl
          show mLoadV _ (adr c 2 (a w).slab) = _
          rw [hst, gset]; omega
    · -- 31
      rw [sB_31 hl] at p2 ⊢
      exact ⟨_, _, _, _, sw1_0, rfl, h.own hw s0 s1 rfl hh (h.M.load _) rfl (fun _ _ _ _ => rfl) rfl (fun _ _ _ => rfl) p2 ⟨s0, s1, hh, .inr (.inr (.inr (.inr ⟨rfl, hL, hW, hK, hep.1, Int.le_refl _⟩)))⟩ rfl⟩
    · -- 32
      have hH := home_in hc s0 s1 (Int.le_refl 1) (by omega) hK
      obtain ⟨v, hv⟩ : ∃ v, v = pSlab 3 0 (a w).V := ⟨_, rfl⟩
      have hvb : uB v = true := by rw [hv]; exact uB_pSlab
      have hst : mLoadV (mStore m (adr c 2 (a w).slab) v) (adr c 2 (a w).slab) = v := by rw [ld_store, if_pos ⟨hok, rfl⟩]
      have hM' := h.M.store' (adr c 2 (a w).slab) v hvb
      have hz : mLoadV (mStore m (adr c 2 (a w).slab) v) 0 = mLoadV m 0 := by rw [ld_store, if_neg (by omega)]
      rw [sB_32 hl, h.M.hc, hH, ← hv] at p2 ⊢
      have gs : ∀ x, gI (hs.set (a w).slab.toNat x) (a w).slab = x := fun x => by rw [gI_set s0 s0 (by rw [h.l2]; exact s1), if_pos rfl]
      have gw : ∀ x, gI (wh.set (a w).slab.toNat x) (a w).slab = x := fun x => by rw [gI_set s0 s0 (by rw [h.l3]; exact s1), if_pos rfl]
      refine ⟨lf.set w 0, hs.set (a w).slab.toNat 0, wh.set (a w).slab.toNat (a w).V, { a w with line := 33, K := 0, J := 0, E := mLoadV m 0 }, ?_, rfl, ?_⟩
      · unfold sw1
        rw [if_neg (show ¬ ((1 : Int) = 0) by decide), hl, if_neg (by decide), if_neg (by decide), if_neg (by decide), if_neg (by decide), if_pos rfl, w1, if_pos ⟨hL, s0, s1, by rw [wordV_ld hM' s0 s1, hst, hv]; unfold pSlab; omega, hh⟩, Int.toNat_natCast]
        show some (lf.set w 0, hs.set (a w).slab.toNat 0, wh.set (a w).slab.toNat (a w).V, { a w with line := 33, K := 0, J := 0, E := mLoadV (mStore m (adr c 2 (a w).slab) v) 0 }) = _
        rw [hz]
      · refine h.next hw (a w).slab hM' hz (fun j q0 q1 e => by rw [ld_store, if_neg (by intro z; exact adr2_ne hc q0 q1 s0 s1 e z.2)])
          (fun j q0 q1 e => ⟨by rw [gI_set s0 q0 (by rw [h.l2]; exact s1), if_neg e], by rw [gI_set s0 q0 (by rw [h.l3]; exact s1), if_neg e]⟩) List.length_set List.length_set List.length_set
          (fun k hk e => gne _ k hk e) (fun _ _ k hk => by rw [hh]; omega) (h.mine rfl) ?_ (.inl ⟨rfl, by show (0 : Int) ≤ 0; omega, by show (0 : Int) < c.b; omega⟩) (fun _ _ _ => ?_) (fun _ _ => .inl (gs 0))
        · obtain ⟨b1, b2, b3, b4, b5, b6, b7, b8, b9, b10, b11, b12⟩ := okW_all hx
          simp only [okW, b1, b2, b3, b4, b5, b6, b7, b8, b9, b10, b11, b12, uB_load hu, Bool.and_self]
        · rw [gw, hst]
          refine ⟨?_, by omega, v1⟩
          unfold restV
          rw [if_neg (by omega)]; exact hv

/-- A worker moves the epoch on. -/
theorem JI.bump (h : JI c n i m a lf hs wh) (hi : i ≤ 1000) (hi0 : 0 ≤ i) : JI c n (i + 1) (mStore m 0 (wU (mLoadV m 0 + 1))) a lf hs wh := by
  have hc := h.M.chk
  obtain ⟨⟨a1, a2⟩, _⟩ := chk_zero hc
  have hep := h.ep
  have hv : uB (wU (mLoadV m 0 + 1)) = true := uB_wrap
  have hok : Mm.ok m 0 = true := by
    have e := szC_eq hc
    have := h.M.sz
    rw [okA]; unfold sizeN at e; omega
  have e0 : mLoadV (mStore m 0 (wU (mLoadV m 0 + 1))) 0 = mLoadV m 0 + 1 := by rw [ld_store, if_pos ⟨hok, rfl⟩, wU_id (by omega) (by omega)]
  have e2 : ∀ j, 0 ≤ j → j < c.b → mLoadV (mStore m 0 (wU (mLoadV m 0 + 1))) (adr c 2 j) = mLoadV m (adr c 2 j) := fun j j0 j1 => by rw [ld_store, if_neg (by rw [adr2_in hc j0 j1]; omega)]
  have hO : ∀ k, OJ c m hs lf k (a k) → OJ c (mStore m 0 (wU (mLoadV m 0 + 1))) hs lf k (a k) := by
    rintro k ⟨q1, q2, q3, q⟩
    refine ⟨q1, q2, q3, ?_⟩
    rw [e2 _ q1 q2, e0]
    rcases q with q | q | q | q | ⟨q4, q5, q6, q7, q8, q9⟩
    · exact .inl q
    · exact .inr (.inl q)
    · exact .inr (.inr (.inl q))
    · exact .inr (.inr (.inr (.inl q)))
    · exact .inr (.inr (.inr (.inr ⟨q4, q5, q6, q7, q8, by omega⟩)))
  refine ⟨h.M.store' _ _ hv, h.hn, h.l1, h.l2, h.l3, by rw [e0]; omega, h.ok, fun j j0 j1 hj => ?_, fun j j0 j1 => ?_, fun k hk => ?_⟩
  · obtain ⟨f1, f2, f3⟩ := h.fr j j0 j1 hj
    rw [e2 j j0 j1, e0]
    exact ⟨f1, f2, by omega⟩
  · rcases h.ow j j0 j1 with q | ⟨k, hk, q1, q2, q3⟩
    · exact .inl q
    · exact .inr ⟨k, hk, q1, q2, hO k q3⟩
  · rcases h.w k hk with q | q | q
    · exact .inl q
    · exact .inr (.inl q)
    · exact .inr (.inr (hO k q))
theorem JI.later (h : JI c n i m a lf hs wh) : JI c n (i + 1) m a lf hs wh := ⟨h.M, h.hn, h.l1, h.l2, h.l3, by have := h.ep; omega, h.ok, h.fr, h.ow, h.w⟩
end
end Go.Sx.Pr

namespace Go.Sx.Pr
open Go Go.Sx Go.Proofs
set_option maxRecDepth 100000
end Go.Sx.Pr

/- Contracts with several outcomes, whose results may say less than the run's. -/
namespace Go.Sx
end Go.Sx

/- The contract of Both: a memory and the document's, of the same words. -/
namespace Go.Sx.Pr
open Go Go.Sx Go.Sx.Md Go.Proofs
set_option maxRecDepth 100000

end Go.Sx.Pr

namespace Go.Sx.Pr
open Go Go.Sx Go.Proofs
set_option maxRecDepth 100000
end Go.Sx.Pr

/- The pieces of coatchecklaw11.EntryChanges. -/
namespace Go.Sx.Pr
open Go Go.Sx Go.Sx.Md Go.Proofs
set_option maxRecDepth 100000

theorem seqE {Ω : Type} {it : Itr Ω} {E : Env Ω} {A : Ann} (a b : CC) (n : Nat) (s : SS) (k : SE → SS → Option Ω) : sxI it E A (.seq a b) n s k = sxI it E A a n s (kseq it E A b n k) := id (Eq.refl _)
theorem kseqA {Ω : Type} {it : Itr Ω} {E : Env Ω} {A : Ann} (a b : CC) (n : Nat) (k : SE → SS → Option Ω) : kseq it E A (.seq a b) n k = kseq it E A a n (kseq it E A b n k) := by
  funext e s; cases e <;> rfl
end Go.Sx.Pr

/- Normal forms of coatchecklaw11.EntryKills: the start, the first ticket, the workers. -/
namespace Go.Sx.Pr
open Go Go.Sx Go.Sx.Md Go.Proofs
set_option maxRecDepth 100000
end Go.Sx.Pr

/- Normal forms of coatchecklaw11.EntryKills: a pick. -/
namespace Go.Sx.Pr
open Go Go.Sx Go.Sx.Md Go.Proofs
set_option maxRecDepth 100000
end Go.Sx.Pr

/- Normal forms of coatchecklaw11.EntryKills: what a step changes. -/
namespace Go.Sx.Pr
open Go Go.Sx Go.Sx.Md Go.Proofs
set_option maxRecDepth 100000
end Go.Sx.Pr

/- EntryKills: the steps of an entry and the free list of entries, in the pure model. -/
namespace Go.Sx.Pr
open Go Go.Sx Go.Sx.Md Go.Proofs
set_option maxRecDepth 100000

section
variable {m : Mm} {x : Wk} {c : Cf} {t : Int}
theorem sS_of (k : Int) (hk : 0 ≤ k ∧ k ≤ 5) (hl : x.line = 20 + k) : stepS m x = stepL 2 4 20 (w64' (x.I - 1)) m x := by
  unfold stepS
  rw [if_neg (by omega), if_pos (by omega)]
theorem sN_of (h : 20 ≤ x.line ∧ x.line ≤ 25) {r : SR} (hr : stepS m x = r) : stepN m x = bif r.way == 1 then (bif decide (x.line ≤ 22) then ⟨r.m, { r.x with I := w64' r.x.H, line := 40 }, 0, true⟩ else ⟨r.m, { r.x with I := 0 }, 1, true⟩) else ⟨r.m, r.x, r.way, true⟩ := by
  unfold stepN
  rw [if_pos h, hr]
theorem sN_20 (hl : x.line = 20) : stepN m x = bif mLoadV m 2 % 4294967296 == 0 then ⟨mLoad m 2, { x with V := mLoadV m 2, H := mLoadV m 2 % 4294967296, line := 0 }, 2, true⟩ else ⟨mLoad m 2, { x with V := mLoadV m 2, H := mLoadV m 2 % 4294967296, line := 21 }, 0, true⟩ := by
  have e : stepS m x = bif mLoadV m 2 % 4294967296 == 0 then ⟨mLoad m 2, { x with V := mLoadV m 2, H := mLoadV m 2 % 4294967296, line := 0 }, 2, true⟩ else ⟨mLoad m 2, { x with V := mLoadV m 2, H := mLoadV m 2 % 4294967296, line := 21 }, 0, true⟩ := by
    rw [sS_of 0 (by omega) (by omega)]; unfold stepL
    rw [if_pos hl]; rfl
  rw [sN_of (by omega) e]
  cases (mLoadV m 2 % 4294967296 == 0) <;> rfl
theorem sN_21 (hl : x.line = 21) : stepN m x = ⟨mLoad m (adr m.c 4 (w64' (w64' x.H - 1))), { x with N := mLoadV m (adr m.c 4 (w64' (w64' x.H - 1))), line := 22 }, 0, true⟩ := by
  have e : stepS m x = ⟨mLoad m (adr m.c 4 (w64' (w64' x.H - 1))), { x with N := mLoadV m (adr m.c 4 (w64' (w64' x.H - 1))), line := 22 }, 0, true⟩ := by
    rw [sS_of 1 (by omega) (by omega)]; unfold stepL
    rw [if_neg (by omega), if_pos (by omega)]; rfl
  rw [sN_of (by omega) e]; rfl
theorem sN_22 (hl : x.line = 22) : stepN m x = bif mCasB m 2 x.V then ⟨mCas m 2 x.V (pHead (x.N % 4294967296 - 1) (x.V / 4294967296 + 1)), { x with I := w64' x.H, line := 40 }, 0, true⟩ else ⟨mCas m 2 x.V (pHead (x.N % 4294967296 - 1) (x.V / 4294967296 + 1)), { x with line := 20 }, 0, true⟩ := by
  have e : stepS m x = bif mCasB m 2 x.V then ⟨mCas m 2 x.V (pHead (x.N % 4294967296 - 1) (x.V / 4294967296 + 1)), { x with line := 0 }, 1, true⟩ else ⟨mCas m 2 x.V (pHead (x.N % 4294967296 - 1) (x.V / 4294967296 + 1)), { x with line := 20 }, 0, true⟩ := by
    rw [sS_of 2 (by omega) (by omega)]; unfold stepL
    rw [if_neg (by omega), if_neg (by omega), if_pos (by omega)]
  rw [sN_of (by omega) e, hl]
  cases mCasB m 2 x.V <;> rfl
theorem sN_23 (hl : x.line = 23) : stepN m x = ⟨mLoad m 2, { x with V := mLoadV m 2, line := 24 }, 0, true⟩ := by
  have e : stepS m x = ⟨mLoad m 2, { x with V := mLoadV m 2, line := 24 }, 0, true⟩ := by
    rw [sS_of 3 (by omega) (by omega)]; unfold stepL
    rw [if_neg (by omega), if_neg (by omega), if_neg (by omega), if_pos (by omega)]; rfl
  rw [sN_of (by omega) e]; rfl
theorem sN_24 (hl : x.line = 24) : stepN m x = ⟨mStore m (adr m.c 4 (w64' (x.I - 1))) (x.V % 4294967296), { x with line := 25 }, 0, true⟩ := by
  have e : stepS m x = ⟨mStore m (adr m.c 4 (w64' (x.I - 1))) (x.V % 4294967296), { x with line := 25 }, 0, true⟩ := by
    rw [sS_of 4 (by omega) (by omega)]; unfold stepL
    rw [if_neg (by omega), if_neg (by omega), if_neg (by omega), if_neg (by omega), if_pos (by omega)]; rfl
  rw [sN_of (by omega) e]; rfl
theorem sN_25 (hl : x.line = 25) : stepN m x = bif mCasB m 2 x.V then ⟨mCas m 2 x.V (pHead (w64' (x.I - 1)) (x.V / 4294967296 + 1)), { x with line := 0, I := 0 }, 1, true⟩ else ⟨mCas m 2 x.V (pHead (w64' (x.I - 1)) (x.V / 4294967296 + 1)), { x with line := 23 }, 0, true⟩ := by
  have e : stepS m x = bif mCasB m 2 x.V then ⟨mCas m 2 x.V (pHead (w64' (x.I - 1)) (x.V / 4294967296 + 1)), { x with line := 0 }, 1, true⟩ else ⟨mCas m 2 x.V (pHead (w64' (x.I - 1)) (x.V / 4294967296 + 1)), { x with line := 23 }, 0, true⟩ := by
    rw [sS_of 5 (by omega) (by omega)]; unfold stepL
    rw [if_neg (by omega), if_neg (by omega), if_neg (by omega), if_neg (by omega), if_neg (by omega)]; rfl
  rw [sN_of (by omega) e, hl]
  cases mCasB m 2 x.V <;> rfl
theorem sN_40 (h : x.line = 40) : stepN m x = ⟨mLoad m (adr m.c 3 (w64' (x.I - 1))), { x with G := mLoadV m (adr m.c 3 (w64' (x.I - 1))) / 1048576, line := 41 }, 0, true⟩ := by
  unfold stepN
  rw [if_neg (by omega), if_pos h]
theorem sN_41 (h : x.line = 41) : stepN m x = ⟨mStore m (adr m.c 3 (w64' (x.I - 1))) (pEntry x.G (w64' (x.B - 1)) 1), { x with T := pTicket (w64' (x.I - 1)) x.G, I := 0, B := 0, line := 0 }, 1, true⟩ := by
  unfold stepN
  rw [if_neg (by omega), if_neg (by omega), if_pos h]
theorem sN_43f (h : x.line = 43) (hb : mCasB m (adr m.c 3 (tE x.T)) x.V = false) :
    stepN m x = ⟨mCas m (adr m.c 3 (tE x.T)) x.V (nextV m.c x.T), { x with line := 42 }, 0, true⟩ := by
  unfold stepN
  rw [if_neg (by omega), if_neg (by omega), if_neg (by omega), if_neg (by omega), if_pos h, hb, cond_false]
end

/-- What the law makes of a step. -/
def sw6 (was way got : Int) (dead : Bool) (tk : Int) (y : Wk) : Option (Int × Bool × Wk) :=
  bif (was == 43) && (way == 1) then some (w64' (got + 1), true, bif decide (y.I > 0) then { y with line := 23 } else y)
  else bif (was == 42) && (way == 1) then (bif dead then none else some (got, dead, { y with line := 43 }))
  else bif (was == 25) && (way == 1) then some (got, dead, { wk0 with line := 20, B := 3, T := tk })
  else bif was == 41 then (bif y.T == tk then none else some (got, dead, wk0))
  else bif way == 2 then some (got, dead, wk0) else some (got, dead, y)

/-- A worker that makes the entry free, and takes it again. -/
def KX (x : Wk) : Prop := (x.line = 23 ∧ x.I = 1) ∨ (x.line = 24 ∧ x.I = 1 ∧ x.V % 4294967296 ≤ 1) ∨ (x.line = 25 ∧ x.I = 1 ∧ x.V % 4294967296 ≤ 1) ∨ x.line = 20 ∨ (x.line = 21 ∧ x.H = 1) ∨ (x.line = 22 ∧ x.H = 1 ∧ x.N % 4294967296 ≤ 1) ∨ (x.line = 40 ∧ x.I = 1) ∨ (x.line = 41 ∧ x.I = 1 ∧ x.G ≠ 1 ∧ 0 ≤ x.G ∧ x.G < 17592186044416)
def WI (t W0 : Int) (dead : Bool) (g : Prop) (x : Wk) : Prop := x.line = 0 ∨ (x.line = 42 ∧ x.T = t) ∨ (x.line = 43 ∧ x.T = t ∧ x.V = W0) ∨ (dead = true ∧ g ∧ KX x)
end Go.Sx.Pr

/- EntryKills: what a step keeps. Plain Lean. -/
namespace Go.Sx.Pr
open Go Go.Sx Go.Sx.Md Go.Proofs
set_option maxRecDepth 100000

/-- The memory of one entry: its ticket t, its live word W0. -/
structure KM (c : Cf) (t W0 : Int) (m : Mm) (dead : Bool) : Prop where
  M : MC c m
  e : c.e = 1
  g : goodV c t = true
  tE : tE t = 0
  tG : tG t = 1
  w0 : liveV W0 1 = true
  hd : mLoadV m 2 % 4294967296 ≤ 1
  lk : mLoadV m (adr c 4 0) % 4294967296 ≤ 1
  W : dead = false → mLoadV m (adr c 3 0) = W0
  D : dead = true → liveV (mLoadV m (adr c 3 0)) 1 = false

section
variable {c : Cf} {t W0 got : Int} {m : Mm} {dead : Bool} {x : Wk}
theorem KM.addr (h : KM c t W0 m dead) : adr c 3 0 = 3 + c.a + c.b ∧ adr c 4 0 = 3 + c.a + c.b + 1 ∧ 1 ≤ c.a ∧ 1 ≤ c.b := by
  have hc := h.M.chk
  obtain ⟨⟨a1, a2⟩, ⟨b1, b2⟩, _⟩ := chk_zero hc
  have e := h.e
  refine ⟨?_, ?_, a1, b1⟩
  · rw [adr3 hc, if_pos (by omega)]; omega
  · rw [show adr c 4 0 = if 0 ≤ (0 : Int) ∧ (0 : Int) < c.e then 3 + c.a + c.b + 2 * 0 + 1 else -1 from at4 hc 0, if_pos (by omega)]; omega
/-- Steps that leave all three words as they are. -/
theorem KM.same {m' : Mm} (h : KM c t W0 m dead) (hM : MC c m') (h1 : mLoadV m' 2 % 4294967296 ≤ 1) (h2 : mLoadV m' (adr c 4 0) % 4294967296 ≤ 1) (h3 : mLoadV m' (adr c 3 0) = mLoadV m (adr c 3 0)) : KM c t W0 m' dead :=
  ⟨hM, h.e, h.g, h.tE, h.tG, h.w0, h1, h2, fun q => h3.trans (h.W q), fun q => by rw [h3]; exact h.D q⟩
theorem MC.store (h : MC c m) (a v : Int) (hv : uB v = true) : MC c (mStore m a v) := ⟨okM_store h.ok hv, h.hc, by rw [show (mStore m a v).ws = mSet m (Mm.ok m a) a v from rfl, len_mSet]; exact h.sz⟩
theorem head_mod {p v : Int} (hv : 0 ≤ v) : pHead p v % 4294967296 = (p + 1) % 4294967296 := by unfold pHead; omega

/-- What a step leaves. -/
def Aft (c : Cf) (t W0 got : Int) (m : Mm) (dead : Bool) (x : Wk) : Prop :=
  ∃ g' d' y', sw6 x.line (stepN m x).way got dead t (stepN m x).x = some (g', d', y') ∧ (stepN m x).ok = true ∧ (g' = got ∧ d' = dead ∨ g' = w64' (got + 1) ∧ dead = false ∧ d' = true) ∧
    KM c t W0 (stepN m x).m d' ∧ WI t W0 d' (mLoadV (stepN m x).m (adr c 3 0) / 1048576 ≠ 1) y' ∧ (dead = true → mLoadV m (adr c 3 0) / 1048576 ≠ 1 → mLoadV (stepN m x).m (adr c 3 0) / 1048576 ≠ 1)

theorem aft_42 (h : KM c t W0 m dead) (hl : x.line = 42) (hT : x.T = t) : Aft c t W0 got m dead x := by
  have hA : adr m.c 3 (tE x.T) = adr c 3 0 := by rw [h.M.hc, hT, h.tE]
  have hG : tG x.T = 1 := by rw [hT]; exact h.tG
  unfold Aft
  cases dead with
  | false =>
    have hw := h.W rfl
    rw [sN_live (Or.inl hl) (by rw [hA, hG, hw]; exact h.w0), hA, hw, hl]
    exact ⟨_, _, _, rfl, rfl, .inl ⟨rfl, rfl⟩, h.same (h.M.load _) h.hd h.lk rfl, .inr (.inr (.inl ⟨rfl, hT, rfl⟩)), fun q => absurd q (by simp)⟩
  | true =>
    rw [sN_dead (Or.inl hl) (by rw [hA, hG]; exact h.D rfl), hA, hl]
    exact ⟨_, _, _, rfl, rfl, .inl ⟨rfl, rfl⟩, h.same (h.M.load _) h.hd h.lk rfl, .inl rfl, fun _ q => q⟩

theorem aft_43 (h : KM c t W0 m dead) (hl : x.line = 43) (hT : x.T = t) (hV : x.V = W0) (hW : uB W0 = true) : Aft c t W0 got m dead x := by
  have hA : adr m.c 3 (tE x.T) = adr c 3 0 := by rw [h.M.hc, hT, h.tE]
  have hok : Mm.ok m (adr c 3 0) = true := by have := h.M.at h.g; rw [h.tE] at this; exact this
  obtain ⟨k1, k2, k3, k4⟩ := h.addr
  unfold Aft
  cases dead with
  | false =>
    have hw := h.W rfl
    have hb : mCasB m (adr c 3 0) W0 = true := by rw [← hw]; exact casB_self hok
    have hgl := tG_lt h.M.chk h.g
    have hN := w_next (c := c) (t := t) ⟨by rw [h.tG]; omega, by rw [h.tG]; omega⟩
    rw [sN_43 hl (by rw [hA, hV]; exact hb), hA, hV, hl, hT, h.M.hc]
    have MC' := h.M.cas (adr c 3 0) W0 (nextV c t) uB_nextV
    have l3 : mLoadV (mCas m (adr c 3 0) W0 (nextV c t)) (adr c 3 0) = nextV c t := by rw [ld_cas, if_pos ⟨hb, rfl⟩]
    have l2 : mLoadV (mCas m (adr c 3 0) W0 (nextV c t)) 2 = mLoadV m 2 := by rw [ld_cas, if_neg (by omega)]
    have l4 : mLoadV (mCas m (adr c 3 0) W0 (nextV c t)) (adr c 4 0) = mLoadV m (adr c 4 0) := by rw [ld_cas, if_neg (by omega)]
    have K' : KM c t W0 (mCas m (adr c 3 0) W0 (nextV c t)) true := ⟨MC', h.e, h.g, h.tE, h.tG, h.w0, by rw [l2]; exact h.hd, by rw [l4]; exact h.lk, fun q => absurd q (by simp), fun _ => by rw [l3, ← h.tG]; exact hN.1⟩
    refine ⟨_, _, _, rfl, rfl, .inr ⟨rfl, rfl, rfl⟩, K', ?_, fun q => absurd q (by simp)⟩
    by_cases hlast : c.l ≤ tG t
    · rw [decide_eq_true hlast]; exact .inl rfl
    · have e1 : t % 65536 = 1 := by have := h.tE; unfold tE at this; omega
      rw [decide_eq_false hlast, cond_false, e1]
      refine .inr (.inr (.inr ⟨rfl, ?_, .inl ⟨rfl, rfl⟩⟩))
      show mLoadV (mCas m (adr c 3 0) W0 (nextV c t)) (adr c 3 0) / 1048576 ≠ 1
      rw [l3, (hN.2.2.2 hlast).1, h.tG]; omega
  | true =>
    have hD := h.D rfl
    have hb : mCasB m (adr c 3 0) W0 = false := by
      cases e : mCasB m (adr c 3 0) W0 with
      | false => rfl
      | true =>
        rw [(casB_iff hok).1 e, h.w0] at hD; cases hD
    rw [sN_43f hl (by rw [hA, hV]; exact hb), hA, hV, hl, hT, h.M.hc]
    have ld : ∀ b, mLoadV (mCas m (adr c 3 0) W0 (nextV c t)) b = mLoadV m b := fun b => by rw [ld_cas, if_neg (by rw [hb]; simp)]
    refine ⟨_, _, _, rfl, rfl, .inl ⟨rfl, rfl⟩, h.same (h.M.cas _ _ _ uB_nextV) (by rw [ld]; exact h.hd) (by rw [ld]; exact h.lk) (ld _), .inr (.inl ⟨rfl, rfl⟩), fun _ q => by rw [ld]; exact q⟩

theorem aft_K (h : KM c t W0 m true) (hg : mLoadV m (adr c 3 0) / 1048576 ≠ 1) (hx : KX x) (hok : okW x = true) : Aft c t W0 got m true x := by
  obtain ⟨k1, k2, k3, k4⟩ := h.addr
  have hD := h.D rfl
  have hu := okM_u h.M.ok
  have i0 : w64' ((1 : Int) - 1) = 0 := by decide
  have i1 : w64' (w64' (1 : Int) - 1) = 0 := by decide
  have i2 : w64' (1 : Int) = 1 := by decide
  unfold Aft
  rcases hx with ⟨hl, hI⟩ | ⟨hl, hI, hV⟩ | ⟨hl, hI, hV⟩ | hl | ⟨hl, hH⟩ | ⟨hl, hH, hN⟩ | ⟨hl, hI⟩ | ⟨hl, hI, hG, hG0, hG1⟩
  · rw [sN_23 hl, hl]
    exact ⟨_, _, _, rfl, rfl, .inl ⟨rfl, rfl⟩, h.same (h.M.load _) h.hd h.lk rfl, .inr (.inr (.inr ⟨rfl, hg, .inr (.inl ⟨rfl, hI, h.hd⟩)⟩)), fun _ q => q⟩
  · rw [sN_24 hl, hl, hI, i0, h.M.hc]
    have l2 : mLoadV (mStore m (adr c 4 0) (x.V % 4294967296)) 2 = mLoadV m 2 := by rw [ld_store, if_neg (by omega)]
    have l3 : mLoadV (mStore m (adr c 4 0) (x.V % 4294967296)) (adr c 3 0) = mLoadV m (adr c 3 0) := by rw [ld_store, if_neg (by omega)]
    have l4 : mLoadV (mStore m (adr c 4 0) (x.V % 4294967296)) (adr c 4 0) % 4294967296 ≤ 1 := by
      rw [ld_store]; split
      · omega
      · exact h.lk
    have hv : uB (x.V % 4294967296) = true := by rw [uB_iff]; omega
    exact ⟨_, _, _, rfl, rfl, .inl ⟨rfl, rfl⟩, h.same (h.M.store _ _ hv) (by rw [l2]; exact h.hd) l4 l3, .inr (.inr (.inr ⟨rfl, by rw [l3]; exact hg, .inr (.inr (.inl ⟨rfl, rfl, hV⟩))⟩)), fun _ q => by rw [l3]; exact q⟩
  · rw [sN_25 hl, hl, hI, i0]
    obtain ⟨q, hq⟩ : ∃ q, q = pHead 0 (x.V / 4294967296 + 1) := ⟨_, rfl⟩
    have hq2 : q % 4294967296 ≤ 1 := by
      rw [hq, head_mod (by have := (uB_iff.1 (okW_all hok).2.2.2.2.2.2.2.2.1).1; omega)]; decide
    have hqb : uB q = true := by rw [hq]; exact uB_pHead
    rw [← hq]
    have l2 : mLoadV (mCas m 2 x.V q) 2 % 4294967296 ≤ 1 := by
      rw [ld_cas]; split
      · exact hq2
      · exact h.hd
    have l3 : mLoadV (mCas m 2 x.V q) (adr c 3 0) = mLoadV m (adr c 3 0) := by rw [ld_cas, if_neg (by omega)]
    have l4 : mLoadV (mCas m 2 x.V q) (adr c 4 0) = mLoadV m (adr c 4 0) := by rw [ld_cas, if_neg (by omega)]
    have K' := h.same (h.M.cas 2 x.V q hqb) l2 (by rw [l4]; exact h.lk) l3
    cases mCasB m 2 x.V with
    | true => exact ⟨_, _, _, rfl, rfl, .inl ⟨rfl, rfl⟩, K', .inr (.inr (.inr ⟨rfl, by show mLoadV (mCas m 2 x.V q) (adr c 3 0) / 1048576 ≠ 1; rw [l3]; exact hg, .inr (.inr (.inr (.inl rfl)))⟩)), fun _ z => by show mLoadV (mCas m 2 x.V q) (adr c 3 0) / 1048576 ≠ 1; rw [l3]; exact z⟩
    | false => exact ⟨_, _, _, rfl, rfl, .inl ⟨rfl, rfl⟩, K', .inr (.inr (.inr ⟨rfl, by show mLoadV (mCas m 2 x.V q) (adr c 3 0) / 1048576 ≠ 1; rw [l3]; exact hg, .inl ⟨rfl, rfl⟩⟩)), fun _ z => by show mLoadV (mCas m 2 x.V q) (adr c 3 0) / 1048576 ≠ 1; rw [l3]; exact z⟩
  · rw [sN_20 hl, hl]
    have K' := h.same (h.M.load 2) h.hd h.lk rfl
    cases e : (mLoadV m 2 % 4294967296 == 0) with
    | true => exact ⟨_, _, _, rfl, rfl, .inl ⟨rfl, rfl⟩, K', .inl rfl, fun _ q => q⟩
    | false =>
      have h1 : mLoadV m 2 % 4294967296 = 1 := by
        have := h.hd
        have h0 : mLoadV m 2 % 4294967296 ≠ 0 := by simpa using e
        omega
      exact ⟨_, _, _, rfl, rfl, .inl ⟨rfl, rfl⟩, K', .inr (.inr (.inr ⟨rfl, hg, .inr (.inr (.inr (.inr (.inl ⟨rfl, h1⟩))))⟩)), fun _ q => q⟩
  · rw [sN_21 hl, hl, hH, i1, h.M.hc]
    exact ⟨_, _, _, rfl, rfl, .inl ⟨rfl, rfl⟩, h.same (h.M.load _) h.hd h.lk rfl, .inr (.inr (.inr ⟨rfl, hg, .inr (.inr (.inr (.inr (.inr (.inl ⟨rfl, rfl, h.lk⟩)))))⟩)), fun _ q => q⟩
  · rw [sN_22 hl, hl, hH, i2]
    obtain ⟨q, hq⟩ : ∃ q, q = pHead (x.N % 4294967296 - 1) (x.V / 4294967296 + 1) := ⟨_, rfl⟩
    have hq2 : q % 4294967296 ≤ 1 := by
      rw [hq, head_mod (by have := (uB_iff.1 (okW_all hok).2.2.2.2.2.2.2.2.1).1; omega)]; omega
    have hqb : uB q = true := by rw [hq]; exact uB_pHead
    rw [← hq]
    have l2 : mLoadV (mCas m 2 x.V q) 2 % 4294967296 ≤ 1 := by
      rw [ld_cas]; split
      · exact hq2
      · exact h.hd
    have l3 : mLoadV (mCas m 2 x.V q) (adr c 3 0) = mLoadV m (adr c 3 0) := by rw [ld_cas, if_neg (by omega)]
    have l4 : mLoadV (mCas m 2 x.V q) (adr c 4 0) = mLoadV m (adr c 4 0) := by rw [ld_cas, if_neg (by omega)]
    have K' := h.same (h.M.cas 2 x.V q hqb) l2 (by rw [l4]; exact h.lk) l3
    cases mCasB m 2 x.V with
    | true => exact ⟨_, _, _, rfl, rfl, .inl ⟨rfl, rfl⟩, K', .inr (.inr (.inr ⟨rfl, by show mLoadV (mCas m 2 x.V q) (adr c 3 0) / 1048576 ≠ 1; rw [l3]; exact hg, .inr (.inr (.inr (.inr (.inr (.inr (.inl ⟨rfl, rfl⟩))))))⟩)), fun _ z => by show mLoadV (mCas m 2 x.V q) (adr c 3 0) / 1048576 ≠ 1; rw [l3]; exact z⟩
    | false => exact ⟨_, _, _, rfl, rfl, .inl ⟨rfl, rfl⟩, K', .inr (.inr (.inr ⟨rfl, by show mLoadV (mCas m 2 x.V q) (adr c 3 0) / 1048576 ≠ 1; rw [l3]; exact hg, .inr (.inr (.inr (.inl rfl)))⟩)), fun _ z => by show mLoadV (mCas m 2 x.V q) (adr c 3 0) / 1048576 ≠ 1; rw [l3]; exact z⟩
  · rw [sN_40 hl, hl, hI, i0, h.M.hc]
    have hb := uB_iff.1 (uB_load (a := adr c 3 0) hu)
    exact ⟨_, _, _, rfl, rfl, .inl ⟨rfl, rfl⟩, h.same (h.M.load _) h.hd h.lk rfl, .inr (.inr (.inr ⟨rfl, hg, .inr (.inr (.inr (.inr (.inr (.inr (.inr ⟨rfl, rfl, hg, by show 0 ≤ mLoadV m (adr c 3 0) / 1048576; omega, by show mLoadV m (adr c 3 0) / 1048576 < 17592186044416; omega⟩))))))⟩)), fun _ q => q⟩
  · rw [sN_41 hl, hl, hI, i0, h.M.hc]
    obtain ⟨v, hv⟩ : ∃ v, v = pEntry x.G (w64' (x.B - 1)) 1 := ⟨_, rfl⟩
    have hvb : uB v = true := by rw [hv]; exact uB_pEntry
    have hvg : v / 1048576 = x.G := by rw [hv]; unfold pEntry; omega
    rw [← hv]
    have l2 : mLoadV (mStore m (adr c 3 0) v) 2 = mLoadV m 2 := by rw [ld_store, if_neg (by omega)]
    have l4 : mLoadV (mStore m (adr c 3 0) v) (adr c 4 0) = mLoadV m (adr c 4 0) := by rw [ld_store, if_neg (by omega)]
    have l3 : mLoadV (mStore m (adr c 3 0) v) (adr c 3 0) = v ∨ mLoadV (mStore m (adr c 3 0) v) (adr c 3 0) = mLoadV m (adr c 3 0) := by
      rw [ld_store]; split
      · exact .inl rfl
      · exact .inr rfl
    have l5 : mLoadV (mStore m (adr c 3 0) v) (adr c 3 0) / 1048576 ≠ 1 := by
      rcases l3 with e | e <;> rw [e]
      · rw [hvg]; exact hG
      · exact hg
    have K' : KM c t W0 (mStore m (adr c 3 0) v) true := ⟨h.M.store _ _ hvb, h.e, h.g, h.tE, h.tG, h.w0, by rw [l2]; exact h.hd, by rw [l4]; exact h.lk, fun q => absurd q (by simp), fun _ => by
      unfold liveV
      rw [show (mLoadV (mStore m (adr c 3 0) v) (adr c 3 0) / 1048576 == 1) = false by simpa using l5, Bool.and_false]⟩
    have hT : (pTicket 0 x.G == t) = false := by
      have h1 : t / 65536 = 1 := h.tG
      have : pTicket 0 x.G ≠ t := by unfold pTicket; omega
      simpa using this
    refine ⟨got, true, wk0, ?_, rfl, .inl ⟨rfl, rfl⟩, K', .inl rfl, fun _ _ => l5⟩
    show (bif pTicket 0 x.G == t then none else some (got, true, wk0)) = _
    rw [hT, cond_false]

/-- A step of a worker. -/
theorem aft (h : KM c t W0 m dead) (hW : uB W0 = true) (hx : WI t W0 dead (mLoadV m (adr c 3 0) / 1048576 ≠ 1) x) (h0 : x.line ≠ 0) (hok : okW x = true) : Aft c t W0 got m dead x := by
  rcases hx with q | ⟨hl, hT⟩ | ⟨hl, hT, hV⟩ | ⟨hd, hg, hk⟩
  · exact absurd q h0
  · exact aft_42 h hl hT
  · exact aft_43 h hl hT hV hW
  · subst hd; exact aft_K h hg hk hok
end
end Go.Sx.Pr

/- EntryKills: a pick. -/
namespace Go.Sx.Pr
open Go Go.Sx Go.Sx.Md Go.Proofs
set_option maxRecDepth 100000

theorem klN {Ω : Type} {it : Itr Ω} {E : Env Ω} {A : Ann} (b : CC) (n : Nat) (s : SS) (k : SE → SS → Option Ω) : kseq it E A b n k .norm s = sxI it E A b n s k := id (Eq.refl _)
theorem klB {Ω : Type} (i : Nat) (s : SS) (k : SE → SS → Option Ω) : kblk i k .norm s = k .norm s := id (Eq.refl _)
end Go.Sx.Pr

/- EntryKills: a pick. -/
namespace Go.Sx.Pr
open Go Go.Sx Go.Sx.Md Go.Proofs
set_option maxRecDepth 100000
theorem lkD_out6 {l : List DV} {j : Nat} (h : l.length ≤ j) : lkD l j = .v undef := by
  unfold lkD
  rw [List.getD_eq_getElem?_getD, List.getElem?_eq_none h]; rfl
theorem rowW_upd6 {a : Nat → Wk} {w : Nat} {x : Wk} : updRow (rowW a) w 0 (List.map dv (encW x)) = rowW (upd a w x) := by
  funext i j
  have hl : ∀ y : Wk, (List.map dv (encW y)).length = 33 := fun _ => rfl
  unfold updRow
  rw [hl]
  by_cases e : i = w
  · subst e
    rw [show Nat.beq i i = true from Nat.beq_refl i, show Nat.ble 0 j = true from Nat.ble_eq_true_of_le (Nat.zero_le j)]
    simp only [rowW, upd_same, Bool.true_and]
    by_cases hj : j < 33
    · rw [show Nat.blt j (0 + 33) = true from Nat.ble_eq_true_of_le (by omega)]; rfl
    · rw [show Nat.blt j (0 + 33) = false by
        cases h : Nat.blt j (0 + 33) with
        | false => rfl
        | true => exact absurd (Nat.le_of_ble_eq_true h) (by omega)]
      rw [cond_false, lkD_out6 (by rw [hl]; omega), lkD_out6 (by rw [hl]; omega)]
  · rw [show Nat.beq i w = false by
      cases h : Nat.beq i w with
      | false => rfl
      | true => exact absurd (Nat.eq_of_beq_eq_true h) e]
    simp only [Bool.false_and, cond_false, rowW, upd_ne e]

/-- What the rounds keep. -/
structure I6 (c : Cf) (t W0 : Int) (n : Nat) (m : Mm) (a : Nat → Wk) (got : Int) (dead : Bool) : Prop where
  M : KM c t W0 m dead
  w : ∀ k, k < n → WI t W0 dead (mLoadV m (adr c 3 0) / 1048576 ≠ 1) (a k)
  ok : ∀ k, k < n → okW (a k) = true
  g : got = bif dead then 1 else 0

theorem WI.mono {t W0 : Int} {d d' : Bool} {g g' : Prop} {x : Wk} (h : WI t W0 d g x) (h1 : d = true → d' = true) (h2 : d = true → g → g') : WI t W0 d' g' x := by
  rcases h with q | q | q | ⟨q1, q2, q3⟩
  · exact .inl q
  · exact .inr (.inl q)
  · exact .inr (.inr (.inl q))
  · exact .inr (.inr (.inr ⟨h1 q1, h2 q1 q2, q3⟩))
end Go.Sx.Pr

namespace Go.Sx.Pr
open Go Go.Sx Go.Proofs
set_option maxRecDepth 100000
end Go.Sx.Pr

namespace Go.Sx.Pr
open Go Go.Sx Go.Proofs
set_option maxRecDepth 100000
end Go.Sx.Pr

/- EpochHolds: normal forms of its pieces. -/
namespace Go.Sx.Pr
open Go Go.Sx Go.Sx.Md Go.Proofs
set_option maxRecDepth 100000
end Go.Sx.Pr

/- Lists in memory: a chain of links, and the walk along it. Plain Lean. -/
namespace Go.Sx.Pr
open Go Go.Sx Go.Sx.Md

def Chain (nx : Int → Int) : Int → List Int → Prop
  | t, [] => t = 0
  | t, i :: L => t = i + 1 ∧ Chain nx (nx i) L

theorem Chain.congr {nx nx' : Int → Int} : ∀ {L : List Int} {t : Int}, Chain nx t L → (∀ i, i ∈ L → nx' i = nx i) → Chain nx' t L
  | [], _, h, _ => h
  | i :: L, _, ⟨h1, h2⟩, hn => ⟨h1, by rw [hn i (by simp)]; exact h2.congr fun j hj => hn j (by simp [hj])⟩

end Go.Sx.Pr

/- The stack of entries under any schedule: what one pick of StackMany leaves. Plain Lean. -/
namespace Go.Sx.Pr
open Go Go.Sx Go.Sx.Md

def nxE (m : Mm) (i : Int) : Int := mLoadV m (adr m.c 4 i) % 4294967296
structure SW (E : Nat) (m : Mm) (L : List Int) (x : Wk) : Prop where
  ln : 20 ≤ x.line ∧ x.line ≤ 25
  noI : x.line ≤ 22 → x.I = 0
  hasI : 23 ≤ x.line → 1 ≤ x.I ∧ x.I ≤ E ∧ x.I - 1 ∉ L
  ver : x.line ≠ 20 → x.line ≠ 23 → 0 ≤ x.V ∧ x.V / 4294967296 ≤ mLoadV m 2 / 4294967296
  hv : x.line = 21 ∨ x.line = 22 → x.H = x.V % 4294967296 ∧ x.H ≠ 0
  nv : x.line = 22 → mLoadV m 2 = x.V → x.N % 4294967296 = nxE m (x.H - 1)
  lv : x.line = 25 → mLoadV m 2 = x.V → nxE m (x.I - 1) = x.V % 4294967296

structure SI (W E : Nat) (m : Mm) (a : Nat → Wk) (L : List Int) (n : Int) : Prop where
  hc : chkC m.c = 0
  e : m.c.e = E
  len : 3 + m.c.a + m.c.b + 2 * (E : Int) ≤ m.ws.length
  lo : 0 ≤ mLoadV m 2
  hi : mLoadV m 2 / 4294967296 ≤ n
  ch : Chain (nxE m) (mLoadV m 2 % 4294967296) L
  nd : L.Nodup
  rg : ∀ i, i ∈ L → 0 ≤ i ∧ i < E
  wk : ∀ k, k < W → SW E m L (a k)
  dis : ∀ j k, j < W → k < W → j ≠ k → (a j).I ≠ 0 → (a j).I ≠ (a k).I
  all : ∀ i : Int, 0 ≤ i → i < E → i ∈ L ∨ ∃ k, k < W ∧ (a k).I = i + 1

variable {W E : Nat} {m : Mm} {a : Nat → Wk} {L : List Int} {n : Int} {w : Nat} {wz : Wk}

end Go.Sx.Pr

/- EpochHolds: the law answers true on symbolic arguments. -/
namespace Go.Sx.Pr
open Go Go.Sx Go.Sx.Md Go.Proofs
set_option maxRecDepth 100000

section
variable {c : Cf} {n : Nat} {m : Mm} {ps : List Int} {a : Nat → Wk} {s : Nat → Bool} {i now : Int} {x0 y0 : Wk}
end

/-- What the round keeps. -/
structure I11 (n : Nat) (m : Mm) (a : Nat → Wk) (s : Nat → Bool) (z : Int) : Prop where
  e : EI n m a s z
  m : okM m = true
  w : ∀ k, k < n → okW (a k) = true

end Go.Sx.Pr

/- The contract of the document's List: what the walk along the links gives. -/
namespace Go.Sx.Pr
open Go Go.Sx Go.Sx.Md Go.Proofs
set_option maxRecDepth 100000

section
variable {c : Cf} {ws : List Int} {kd many : Int} {n : Nat}
end

end Go.Sx.Pr

namespace Go.Sx.Pr
open Go Go.Sx Go.Proofs
set_option maxRecDepth 100000
end Go.Sx.Pr

/- The contract of slices.Index on integers. -/
namespace Go.Sx.Pr
open Go Go.Sx Go.Sx.Md Go.Proofs
set_option maxRecDepth 100000

end Go.Sx.Pr

/- The contract of memory.From. -/
namespace Go.Sx.Pr
open Go Go.Sx Go.Sx.Md Go.Proofs
set_option maxRecDepth 100000

end Go.Sx.Pr

namespace Go.Sx.Pr
open Go Go.Sx Go.Proofs
set_option maxRecDepth 100000
end Go.Sx.Pr

/- The contract of the program's List. -/
namespace Go.Sx.Pr
open Go Go.Sx Go.Sx.Md Go.Proofs
set_option maxRecDepth 100000

end Go.Sx.Pr

/- Pure contracts: functions of data, known by their results as data; nothing of the caller's memory changes. -/
namespace Go.Sx

/-! ### results as data -/

section
variable {a : Bool} {cxq cx' : Cx} {H : SH} {w : World}
end

/-! ### arguments: data -/
inductive PT where
  | any
  | g (cts : List CT)
  | s (k : IntKind)

section
variable {cx cx' : Cx} {w : World}
end

/-! ### the contracts -/
/-! ### results that say less: nil lists as empty lists -/
end Go.Sx

/- The contracts of both layers' List: the elements as data. -/
namespace Go.Sx.Pr
open Go Go.Sx Go.Sx.Md Go.Proofs
set_option maxRecDepth 100000
end Go.Sx.Pr

/- Taking from a free list and putting back, without interference. Plain Lean. -/
namespace Go.Sx.Pr
open Go Go.Sx Go.Sx.Md Go.Proofs

/-- A memory of the right size. -/
structure MW (m : Mm) : Prop where
  ok : okM m = true
  sz : (m.ws.length : Int) = szC m.c
theorem MW.chk {m : Mm} (h : MW m) : chkC m.c = 0 := by
  have := h.ok
  simp only [okM, Bool.and_eq_true, beq_iff_eq] at this
  exact this.1
theorem MW.u {m : Mm} (h : MW m) : u64B m.ws = true := by
  have := h.ok
  simp only [okM, Bool.and_eq_true, beq_iff_eq] at this
  exact this.2
theorem MW.len {m : Mm} (h : MW m) : 3 ≤ m.ws.length := by
  have hs := szC_eq h.chk
  have := h.sz
  unfold sizeN at hs; omega
theorem MW.of {m m' : Mm} (h : MW m) (hc : m'.c = m.c) (hl : m'.ws.length = m.ws.length) (hok : okM m' = true) : MW m' := ⟨hok, by rw [hl, hc]; exact h.sz⟩

section
variable {m : Mm} {en : Bool} {x : Wk}
end

end Go.Sx.Pr
