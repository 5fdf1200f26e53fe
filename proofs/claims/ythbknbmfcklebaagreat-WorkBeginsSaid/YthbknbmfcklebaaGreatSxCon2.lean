/- A law's arguments as symbolic values. -/
import Derived.Test.YthbknbmfcklebaaGreatSxLoop
set_option linter.all false
set_option linter.unusedVariables false
set_option linter.unusedSimpArgs false
set_option linter.unnecessarySimpa false
namespace Go.Sx

def getI : DV → Int
  | .v (.int _ x) => x
  | _ => 0

theorem wt_int {P : Program} {n : Nat} {t : TypeId} {k : IntKind} (hu : P.underlying t = some (.int k)) {l : List DV} (h : Wt P (n + 1) t l) : ∃ x, l = [.v (.int k x)] ∧ (Lit.int k x).wf = true := by
  simpa only [Wt, hu] using h

/-- A struct of integers. -/
theorem wt_ints {P : Program} {n : Nat} : ∀ {ks : List IntKind} {l : List DV}, l.length = ks.length → (∀ (j : Nat) (k : IntKind), ks[j]? = some k → ∃ x, (l.drop j).take 1 = [.v (.int k x)] ∧ (Lit.int k x).wf = true) →
    ∃ xs : List Int, xs.length = ks.length ∧ l = List.zipWith (fun k x => DV.v (.int k x)) ks xs ∧ ∀ (j : Nat) (k : IntKind), ks[j]? = some k → (Lit.int k (xs.getD j 0)).wf = true
  | [], l, hl, _ => ⟨[], rfl, by simpa using hl, by simp⟩
  | k :: ks, l, hl, h => by
    match l, hl with
    | y :: r, hl =>
      obtain ⟨x, h1, h2⟩ := h 0 k rfl
      obtain ⟨xs, e1, e2, e3⟩ := wt_ints (P := P) (n := n) (ks := ks) (l := r) (by simpa using hl) (fun j k' hk => by simpa using h (j + 1) k' (by simpa using hk))
      refine ⟨x :: xs, by simp [e1], ?_, fun j k' hk => ?_⟩
      · simp only [List.zipWith_cons_cons]
        rw [← e2]
        simp at h1
        rw [h1]
      · cases j with
        | zero => simp at hk; subst hk; simpa using h2
        | succ j => simpa using e3 j k' (by simpa using hk)
    | [], hl => simp at hl

theorem u64_wf {x : Int} (h : (Lit.int .u64 x).wf = true) : 0 ≤ x ∧ x ≤ 18446744073709551615 := by
  simp only [Lit.wf, Bool.and_eq_true, IntKind.min, IntKind.max, IntKind.signed, IntKind.bits] at h
  simpa using h

theorem agg_rep {cx : Cx} {w : World} {l : List DV} {v : Value} (h : DRepL cx.fz w l v.cells.toList) (hl : l.length ≠ 1) : SRep cx w (.agg (l.map .d)) v := by
  have key : ∀ (l : List DV) (c : List Value), DRepL cx.fz w l c → SRepL cx w (l.map .d) c := by
    intro l
    induction l with
    | nil =>
      intro c h
      have : c = [] := by simpa using h.1.symm
      subst this; simp [SRepL]
    | cons x r ih =>
      intro c h
      match c, h with
      | v :: c, h =>
        simp only [List.map_cons, SRepL, SRep]
        refine ⟨by simpa using h.2 0 (by simp), ih c ⟨by simpa using h.1, fun j hj => by simpa using h.2 (j + 1) (by simpa using hj)⟩⟩
      | [], h => have := h.1; simp at this
  cases v with
  | agg c =>
    simp only [SRep]
    exact ⟨c.toList, by simp, key l _ (by simpa [Value.cells] using h)⟩
  | _ => exact absurd (by simpa [Value.cells] using h.1) hl

/-- Fields of one cell, integers of these kinds. -/
def fieldsInt (P : Program) : List Field → List IntKind → Nat → Bool
  | [], [], _ => true
  | f :: fs, k :: ks, j => Nat.beq f.offset j && (Nat.beq (P.cellsOf f.type) 1 && ((match P.underlying f.type with | some (.int k') => kEq k k' | _ => false) && fieldsInt P fs ks (j + 1)))
  | _, _, _ => false

theorem fieldsInt_wt {P : Program} {n : Nat} {l : List DV} : ∀ {fs : List Field} {ks : List IntKind} {j0 : Nat}, fieldsInt P fs ks j0 = true → (∀ f ∈ fs, Wt P (n + 1) f.type ((l.drop f.offset).take (P.cellsOf f.type))) →
    ∀ (j : Nat) (k : IntKind), ks[j]? = some k → ∃ x, (l.drop (j0 + j)).take 1 = [.v (.int k x)] ∧ (Lit.int k x).wf = true
  | [], [], j0, _, _, j, k, hk => by simp at hk
  | f :: fs, k0 :: ks, j0, h, hw, j, k, hk => by
    simp only [fieldsInt, Bool.and_eq_true] at h
    obtain ⟨h1, h2, h3, h4⟩ := h
    cases j with
    | zero =>
      simp only [List.getElem?_cons_zero, Option.some.injEq] at hk
      subst hk
      have := hw f (by simp)
      rw [nbeq.1 h1, nbeq.1 h2] at this
      split at h3
      · rename_i k' hu
        rw [← kEq_eq h3] at hu
        exact wt_int hu (by simpa using this)
      · cases h3
    | succ j =>
      have := fieldsInt_wt h4 (fun f hf => hw f (by simp [hf])) j k (by simpa using hk)
      rwa [show j0 + 1 + j = j0 + (j + 1) by omega] at this
  | [], _ :: _, _, h, _, _, _, _ => by simp [fieldsInt] at h
  | _ :: _, [], _, h, _, _, _, _ => by simp [fieldsInt] at h

theorem wt_struct {P : Program} {n : Nat} {t : TypeId} {fs : Array Field} {ks : List IntKind} (hu : P.underlying t = some (.struct fs)) (hc : P.cellsOf t = ks.length) (hf : fieldsInt P fs.toList ks 0 = true) {l : List DV} (h : Wt P (n + 2) t l) :
    ∃ xs : List Int, xs.length = ks.length ∧ l = List.zipWith (fun k x => DV.v (.int k x)) ks xs ∧ ∀ (j : Nat) (k : IntKind), ks[j]? = some k → (Lit.int k (xs.getD j 0)).wf = true := by
  rw [show n + 2 = (n + 1) + 1 from rfl] at h
  simp only [Wt, hu] at h
  exact wt_ints (P := P) (n := n) (h.1.trans hc) fun j k hk => by simpa using fieldsInt_wt hf h.2 j k hk
end Go.Sx

/- Arguments whose cells are integers, booleans and slices of integers: structs and arrays of such. -/
namespace Go.Sx

/-- What a cell holds. -/
inductive CT where
  | i (k : IntKind)
  | b
  | s (k : IntKind)

def tyC : DV → CT → Prop
  | x, .i k => ∃ n, x = .v (.int k n) ∧ (Lit.int k n).wf = true
  | x, .b => ∃ n, x = .v (.bool n)
  | x, .s k => ∃ xs : List Int, x = .ints k xs ∧ ∀ n ∈ xs, (Lit.int k n).wf = true

def Typ : List DV → List CT → Prop
  | [], [] => True
  | x :: r, c :: cs => tyC x c ∧ Typ r cs
  | _, _ => False

theorem Typ.append : ∀ {l l' : List DV} {a b : List CT}, Typ l a → Typ l' b → Typ (l ++ l') (a ++ b)
  | [], _, [], _, _, h => h
  | _ :: _, _, _ :: _, _, h, h' => ⟨h.1, Typ.append h.2 h'⟩
  | [], _, _ :: _, _, h, _ => h.elim
  | _ :: _, _, [], _, h, _ => h.elim

theorem Typ.split {l : List DV} {n : Nat} {a b : List CT} (h : Typ (l.take n) a) (h' : Typ (l.drop n) b) : Typ l (a ++ b) := by
  have := Typ.append h h'
  rwa [List.take_append_drop] at this

def flatFs (P : Program) (f : TypeId → Option (List CT)) : List Field → Nat → Option (List CT)
  | [], _ => some []
  | x :: r, o => match f x.type, flatFs P f r (o + P.cellsOf x.type) with
    | some a, some b => bif Nat.beq x.offset o then some (a ++ b) else none
    | _, _ => none

def copies : Nat → List CT → List CT
  | 0, _ => []
  | n + 1, a => a ++ copies n a

def sumFs (P : Program) : List Field → Nat
  | [] => 0
  | x :: r => P.cellsOf x.type + sumFs P r

/-- The cells of a type. -/
def flatT (P : Program) : Nat → TypeId → Option (List CT)
  | 0, _ => none
  | n + 1, t => match P.underlying t with
    | some .bool => some [.b]
    | some (.int k) => some [.i k]
    | some (.slice e) => match P.underlying e with
      | some (.int k) => some [.s k]
      | _ => none
    | some (.struct fs) => bif Nat.beq (P.cellsOf t) (sumFs P fs.toList) then flatFs P (flatT P n) fs.toList 0 else none
    | some (.array m e) => bif Nat.beq (P.cellsOf t) (m * P.cellsOf e) then (match flatT P n e with | some a => some (copies m a) | none => none) else none
    | _ => none

theorem flatFs_typ {P : Program} {f : TypeId → Option (List CT)} {l : List DV} : ∀ {fs : List Field} {o : Nat} {cs : List CT}, flatFs P f fs o = some cs →
    (∀ x ∈ fs, ∀ a, f x.type = some a → Typ ((l.drop x.offset).take (P.cellsOf x.type)) a) → l.length = o + sumFs P fs → Typ (l.drop o) cs
  | [], o, cs, h, _, hl => by
    simp only [flatFs, Option.some.injEq] at h
    subst h
    rw [List.drop_eq_nil_of_le (by simp only [sumFs] at hl; omega)]
    trivial
  | x :: r, o, cs, h, hx, hl => by
    simp only [flatFs] at h
    split at h
    · rename_i a b ha hb
      obtain ⟨ho, h⟩ := cond_some h
      simp only [Option.some.injEq] at h
      subst h
      simp only [sumFs] at hl
      have h1 := hx x (by simp) a ha
      rw [nbeq.1 ho] at h1
      have h2 := flatFs_typ (l := l) hb (fun y hy => hx y (by simp [hy])) (by omega)
      refine Typ.split (n := P.cellsOf x.type) h1 ?_
      rw [List.drop_drop]
      exact h2
    · cases h

theorem copies_typ {l : List DV} {c : Nat} {a : List CT} : ∀ {m o : Nat}, (∀ i, i < m → Typ ((l.drop (o + i * c)).take c) a) → l.length = o + m * c → Typ (l.drop o) (copies m a)
  | 0, o, _, hl => by
    rw [List.drop_eq_nil_of_le (by omega)]; trivial
  | m + 1, o, h, hl => by
    have h1 := h 0 (by omega)
    simp only [Nat.zero_mul, Nat.add_zero] at h1
    refine Typ.split (n := c) h1 ?_
    rw [List.drop_drop]
    rw [Nat.succ_mul] at hl
    refine copies_typ (c := c) (fun i hi => ?_) (by omega)
    have := h (i + 1) (by omega)
    rwa [Nat.succ_mul, show o + (i * c + c) = o + c + i * c by omega] at this

theorem flatT_typ {P : Program} : ∀ {n m : Nat} {t : TypeId} {l : List DV} {cs : List CT}, flatT P n t = some cs → Wt P (m + n) t l → Typ l cs
  | 0, m, t, l, cs, h, _ => by simp [flatT] at h
  | n + 1, m, t, l, cs, h, hw => by
    rw [show m + (n + 1) = (m + n) + 1 from rfl] at hw
    unfold flatT at h
    unfold Wt at hw
    cases hu : P.underlying t with
    | none => rw [hu] at h; cases h
    | some d =>
      rw [hu] at h hw
      cases d <;> simp only at h hw <;> try (cases h; done)
      case bool =>
        simp only [Option.some.injEq] at h; subst h
        obtain ⟨b, rfl⟩ := hw
        exact ⟨⟨b, rfl⟩, trivial⟩
      case int k =>
        simp only [Option.some.injEq] at h; subst h
        obtain ⟨x, rfl, hx⟩ := hw
        exact ⟨⟨x, rfl, hx⟩, trivial⟩
      case slice e =>
        cases he : P.underlying e with
        | none => rw [he] at h; cases h
        | some d' =>
          rw [he] at h hw
          cases d' <;> simp only at h hw <;> try (cases h; done)
          case int k =>
            simp only [Option.some.injEq] at h; subst h
            obtain ⟨xs, rfl, _, hx⟩ := hw
            exact ⟨⟨xs, rfl, hx⟩, trivial⟩
      case struct fs =>
        obtain ⟨hc, h⟩ := cond_some h
        have := flatFs_typ (l := l) h (fun x hx a ha => flatT_typ (m := m) ha (hw.2 x hx)) (by rw [hw.1, nbeq.1 hc]; omega)
        simpa using this
      case array mm e =>
        obtain ⟨hc, h⟩ := cond_some h
        split at h
        · rename_i a ha
          simp only [Option.some.injEq] at h; subst h
          have := copies_typ (l := l) (o := 0) (c := P.cellsOf e) (a := a) (m := mm) (fun i hi => by rw [Nat.zero_add]; exact flatT_typ (m := m) ha (hw.2 i hi)) (by rw [hw.1, nbeq.1 hc]; omega)
          simpa using this
        · cases h

def getB : DV → Bool
  | .v (.bool x) => x
  | _ => false
def getS : DV → List Int
  | .ints _ l => l
  | _ => []

/-- Cells by the numbers, truths and lists that they hold. -/
def cellsD : List CT → Nat → (Nat → Int) → (Nat → Bool) → (Nat → List Int) → List DV
  | [], _, _, _, _ => []
  | .i k :: r, j, iv, bv, sv => .v (.int k (iv j)) :: cellsD r (j + 1) iv bv sv
  | .b :: r, j, iv, bv, sv => .v (.bool (bv j)) :: cellsD r (j + 1) iv bv sv
  | .s k :: r, j, iv, bv, sv => .ints k (sv j) :: cellsD r (j + 1) iv bv sv

theorem typ_cells {iv : Nat → Int} {bv : Nat → Bool} {sv : Nat → List Int} : ∀ {l : List DV} {cts : List CT} {j : Nat}, Typ l cts → (∀ i, i < l.length → iv (j + i) = getI (l.getD i (.v undef))) → (∀ i, i < l.length → bv (j + i) = getB (l.getD i (.v undef))) →
    (∀ i, i < l.length → sv (j + i) = getS (l.getD i (.v undef))) → l = cellsD cts j iv bv sv
  | [], [], _, _, _, _, _ => rfl
  | x :: r, c :: cs, j, h, h1, h2, h3 => by
    have ih := typ_cells (l := r) (cts := cs) (j := j + 1) h.2 (fun i hi => by have := h1 (i + 1) (by simpa using hi); rw [show j + 1 + i = j + (i + 1) by omega]; simpa using this)
      (fun i hi => by have := h2 (i + 1) (by simpa using hi); rw [show j + 1 + i = j + (i + 1) by omega]; simpa using this)
      (fun i hi => by have := h3 (i + 1) (by simpa using hi); rw [show j + 1 + i = j + (i + 1) by omega]; simpa using this)
    have e1 := h1 0 (by simp)
    have e2 := h2 0 (by simp)
    have e3 := h3 0 (by simp)
    simp only [Nat.add_zero, List.getD_cons_zero] at e1 e2 e3
    cases c with
    | i k =>
      obtain ⟨n, rfl, _⟩ := h.1
      simp only [cellsD, e1, getI]
      rw [← ih]
    | b =>
      obtain ⟨n, rfl⟩ := h.1
      simp only [cellsD, e2, getB]
      rw [← ih]
    | s k =>
      obtain ⟨n, rfl, _⟩ := h.1
      simp only [cellsD, e3, getS]
      rw [← ih]
  | [], _ :: _, _, h, _, _, _ => h.elim
  | _ :: _, [], _, h, _, _, _ => h.elim

/-- What the cells hold is within their kinds. -/
def wfC (iv : Nat → Int) (sv : Nat → List Int) : List CT → Nat → Prop
  | [], _ => True
  | .i k :: r, j => (Lit.int k (iv j)).wf = true ∧ wfC iv sv r (j + 1)
  | .b :: r, j => wfC iv sv r (j + 1)
  | .s k :: r, j => (∀ n ∈ sv j, (Lit.int k n).wf = true) ∧ wfC iv sv r (j + 1)

theorem typ_wf {iv : Nat → Int} {bv : Nat → Bool} {sv : Nat → List Int} : ∀ {cts : List CT} {j : Nat}, Typ (cellsD cts j iv bv sv) cts → wfC iv sv cts j
  | [], _, _ => trivial
  | .i k :: r, j, h => by
    obtain ⟨n, e, hn⟩ := h.1
    simp only [DV.v.injEq, Value.int.injEq, true_and] at e
    subst e
    exact ⟨hn, typ_wf h.2⟩
  | .b :: r, j, h => typ_wf (cts := r) h.2
  | .s k :: r, j, h => by
    obtain ⟨n, e, hn⟩ := h.1
    simp only [DV.ints.injEq, true_and] at e
    subst e
    exact ⟨hn, typ_wf h.2⟩

/-- An aggregate's cells, by what they hold. -/
theorem agg_arg {P : Program} {n m : Nat} {t : TypeId} {cts : List CT} {l : List DV} {cx : Cx} {w : World} {v : Value} (hf : flatT P n t = some cts) (hl : cts.length ≠ 1) (hw : Wt P (m + n) t l) (hr : DRepL cx.fz w l v.cells.toList) :
    ∃ iv bv sv, wfC iv sv cts 0 ∧ SRep cx w (.agg ((cellsD cts 0 iv bv sv).map .d)) v := by
  have ht := flatT_typ hf hw
  have e := typ_cells (iv := fun i => getI (l.getD i (.v undef))) (bv := fun i => getB (l.getD i (.v undef))) (sv := fun i => getS (l.getD i (.v undef))) (j := 0) ht (fun i _ => by simp) (fun i _ => by simp) (fun i _ => by simp)
  refine ⟨fun i => getI (l.getD i (.v undef)), fun i => getB (l.getD i (.v undef)), fun i => getS (l.getD i (.v undef)), ?_, ?_⟩
  · generalize hI : (fun i => getI (l.getD i (.v undef))) = iv at e ⊢
    generalize hB : (fun i => getB (l.getD i (.v undef))) = bv at e ⊢
    generalize hS : (fun i => getS (l.getD i (.v undef))) = sv at e ⊢
    rw [e] at ht
    exact typ_wf ht
  · rw [← e]
    refine agg_rep hr fun h1 => hl ?_
    have key : ∀ (l : List DV) (c : List CT), Typ l c → l.length = c.length := by
      intro l
      induction l with
      | nil => intro c h; cases c with
        | nil => rfl
        | cons _ _ => exact h.elim
      | cons x r ih => intro c h; cases c with
        | nil => exact h.elim
        | cons y s => simp [ih s h.2]
    rw [← key l cts ht, h1]
end Go.Sx

/- Contracts with several outcomes; rows of which only what lies within counts. -/
namespace Go.Sx

def alts {Ω : Type} (k : SV → List Nat → List Nat → SH → Option Ω) (h : SH) : List (Bool × SV × SH) → Option Ω
  | [] => none
  | (g, r, hr) :: rest => br g (k (shft h.length r) [] [] (h ++ shftH h.length hr)) (alts k h rest)

def firstAlt : List (Bool × SV × SH) → Option (SV × SH)
  | [] => none
  | (g, r, hr) :: rest => bif g then some (r, hr) else firstAlt rest

def conSpecL (ts : List AT) (F : List (List Int) → List (Bool × SV × SH)) {Ω : Type} : Spec Ω := fun args h k =>
  match lendAs h ts args with
  | some l => alts k h (F l)
  | none => none

theorem alts_first {Ω : Type} {k : SV → List Nat → List Nat → SH → Option Ω} {h : SH} {out : Ω} : ∀ {L : List (Bool × SV × SH)}, alts k h L = some out → ∃ r hr, firstAlt L = some (r, hr) ∧ k (shft h.length r) [] [] (h ++ shftH h.length hr) = some out
  | [], e => by cases e
  | (g, r, hr) :: rest, e => by
    cases g with
    | true => exact ⟨r, hr, rfl, e⟩
    | false =>
      obtain ⟨r', hr', h1, h2⟩ := alts_first (L := rest) e
      exact ⟨r', hr', h1, h2⟩

theorem alts_of {Ω : Type} {k : SV → List Nat → List Nat → SH → Option Ω} {h : SH} : ∀ {L : List (Bool × SV × SH)} {r : SV} {hr : SH}, firstAlt L = some (r, hr) → alts k h L = k (shft h.length r) [] [] (h ++ shftH h.length hr)
  | [], r, hr, e => by cases e
  | (g, r', hr') :: rest, r, hr, e => by
    cases g with
    | true =>
      simp only [firstAlt, cond_true, Option.some.injEq, Prod.mk.injEq] at e
      obtain ⟨rfl, rfl⟩ := e
      rfl
    | false => exact alts_of (L := rest) e

theorem conL_par {ts : List AT} {F : List (List Int) → List (Bool × SV × SH)} {Ω Ω' : Type} : SpecPar (conSpecL ts F (Ω := Ω)) (conSpecL ts F (Ω := Ω')) := by
  intro args h k out hs
  unfold conSpecL at hs ⊢
  split at hs
  · rename_i l hl
    obtain ⟨r, hr, h1, h2⟩ := alts_first hs
    exact ⟨_, _, _, _, h2, fun k' => alts_of h1⟩
  · cases hs

/-- The same, but for what lies outside of a row. -/
def RowEqO (o o' : SO) : Prop := o = o' ∨ ∃ t sz n f f', o = .row t sz n f ∧ o' = .row t sz n f' ∧ ∀ i, i < n → ∀ j, j < sz → f i j = f' i j
def RowEq : SH → SH → Prop
  | [], [] => True
  | o :: r, o' :: r' => RowEqO o o' ∧ RowEq r r'
  | _, _ => False

theorem RowEq.refl : ∀ h : SH, RowEq h h
  | [] => trivial
  | _ :: r => ⟨.inl rfl, RowEq.refl r⟩
theorem RowEq.length : ∀ {h h' : SH}, RowEq h h' → h.length = h'.length
  | [], [], _ => rfl
  | _ :: r, _ :: r', e => by simp [RowEq.length e.2]
  | [], _ :: _, e => e.elim
  | _ :: _, [], e => e.elim
theorem RowEq.get : ∀ {h h' : SH}, RowEq h h' → ∀ l, RowEqO (hget h l) (hget h' l)
  | [], [], _, l => .inl rfl
  | _ :: r, _ :: r', e, 0 => by simpa [hget] using e.1
  | _ :: r, _ :: r', e, l + 1 => by simpa [hget] using RowEq.get e.2 l
  | [], _ :: _, e, _ => e.elim
  | _ :: _, [], e, _ => e.elim

theorem Gam.rowEq {cx : Cx} {h h' : SH} {w : World} (g : Gam cx h w) (e : RowEq h h') : Gam cx h' w := by
  have hlv : ∀ l, liv cx h' l → liv cx h l := fun l hl => by
    rcases e.get l with e1 | ⟨t, sz, n, f, f', e1, e2, _⟩
    · unfold liv at hl ⊢; rw [e1]; exact hl
    · unfold liv at hl ⊢; rw [e2] at hl; rw [e1]; exact hl
  refine ⟨by rw [← e.length]; exact g.n, fun l => ?_, fun l hl => g.lt l (hlv l hl), fun l hl => g.own l (hlv l hl), fun l m hl hm => g.inj l m (hlv l hl) (hlv m hm), g.fzlt, g.dj⟩
  have ho := g.obj l
  rcases e.get l with e1 | ⟨t, sz, n, f, f', e1, e2, e3⟩
  · rw [← e1]; exact ho
  · rw [e1] at ho
    rw [e2]
    simp only [ORep] at ho ⊢
    refine ⟨ho.1, ho.2.1, ho.2.2.1, ho.2.2.2.1, fun hn => ?_⟩
    obtain ⟨t', c', h1, h2, h3⟩ := ho.2.2.2.2 hn
    refine ⟨t', c', h1, h2, fun i hi j hj => ?_⟩
    obtain ⟨x, hx, hr⟩ := h3 i hi j hj
    exact ⟨x, hx, by rw [← e3 i hi j hj]; exact hr⟩

theorem conGoodL {P : Program} {g : Nat} {fn : Func} (hf : P.funcs[g]? = some fn) (hname : (fn.name == "runtime.NumGoroutine") = false) {C : CF} (hC : coF P fn = some C) {A : Ann} {e : {Ω : Type} → Env Ω} (he : GoodE P e) (hmix : P.follows .mixedOrders = true)
    {ts : List AT} {F : List (List Int) → List (Bool × SV × SH)}
    (hrun : ∀ l r hr, lenAs ts l → firstAlt (F l) = some (r, hr) → Flat r ∧ FlatH hr ∧ ∃ hr0 H, RowEq hr0 hr ∧ trim 0 r [] H = hr0 ∧ sxFn (e (Ω := SV × SH)) A C (encAs ts l) [] (fun r h => some (r, h)) = some (r, H)) :
    Good1 P g (fun {Ω} => conSpecL ts F (Ω := Ω)) := by
  have hbody : ∃ c, fn.body = some c := by
    unfold coF at hC
    split at hC
    · rename_i c hb; exact ⟨c, hb⟩
    · cases hC
  obtain ⟨c, hb⟩ := hbody
  have henter : ∀ (args : Array Value) (w : World), (callFunc g args).run P w = .ok (.enter g args) w := fun args w => by
    have h1 : fn.name ≠ "runtime.NumGoroutine" := by simpa using hname
    simp [callFunc, hf, h1, hb]
  refine ⟨fun Ω => ⟨henter, fun args h k out hs => ?_⟩, fun Ω Ω' => conL_par⟩
  unfold conSpecL at hs
  split at hs
  · rename_i l hl
    obtain ⟨r, hr, hF, hk⟩ := alts_first hs
    obtain ⟨f1, f2, hr0, H, heq, htr, hrun⟩ := hrun l r hr (lendAs_len hl) hF
    refine ⟨_, [], [], _, hk, ⟨by simp, fun l hl _ => by rw [hget_app, if_pos hl]⟩, fun cx w vals hg ha => ?_⟩
    refine (fn_calls (he.ok _) hmix hf hC hrun (cxA w) w vals (gamL w _) (lendAs_ok hg hl ha)).mono fun e w' ⟨v, cxq, e1, grq, hrq, hGq⟩ => ?_
    obtain ⟨cxs, hG, hr', hgrow⟩ := trim_sound (n0 := 0) (m := []) hGq hrq
    rw [htr] at hG
    have gr := hgrow (Nat.le_refl _) grq
    obtain ⟨k1, k2⟩ := join_flat hg gr (hG.rowEq heq) f2
    have nm : (fun l => nmem l []) = fun _ => false := funext fun l => by simp [nmem]
    rw [nm]
    exact ⟨v, _, e1, k2, by rw [← hg.n]; exact SRep.flat _ _ f1 hr', k1⟩
  · cases hs
end Go.Sx
