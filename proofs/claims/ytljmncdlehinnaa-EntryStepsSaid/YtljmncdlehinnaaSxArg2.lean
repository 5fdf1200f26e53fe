/- Arguments whose cells are integers, booleans and slices of integers: structs and arrays of such. -/
import Derived.Test.YtljmncdlehinnaaSxArg
set_option linter.unusedVariables false
set_option linter.unusedSimpArgs false
namespace Go.Sx

/-- What a cell holds. -/
inductive CT where
  | i (k : IntKind)
  | b
  | s (k : IntKind)

def tyC : DV → CT → Prop
  | x, .i k => ∃ n, x = .v (.int k n) ∧ (Lit.int k n).wf = true
  | x, .b => ∃ n, x = .v (.bool n)
  | x, .s k => ∃ xs : List Int, x = .ints k xs ∧ ∀ n ∈ xs, (Lit.int k n).wf = true

def Typ : List DV → List CT → Prop
  | [], [] => True
  | x :: r, c :: cs => tyC x c ∧ Typ r cs
  | _, _ => False

theorem Typ.append : ∀ {l l' : List DV} {a b : List CT}, Typ l a → Typ l' b → Typ (l ++ l') (a ++ b)
  | [], _, [], _, _, h => h
  | _ :: _, _, _ :: _, _, h, h' => ⟨h.1, Typ.append h.2 h'⟩
  | [], _, _ :: _, _, h, _ => h.elim
  | _ :: _, _, [], _, h, _ => h.elim

theorem Typ.split {l : List DV} {n : Nat} {a b : List CT} (h : Typ (l.take n) a) (h' : Typ (l.drop n) b) : Typ l (a ++ b) := by
  have := Typ.append h h'
  rwa [List.take_append_drop] at this

def flatFs (P : Program) (f : TypeId → Option (List CT)) : List Field → Nat → Option (List CT)
  | [], _ => some []
  | x :: r, o => match f x.type, flatFs P f r (o + P.cellsOf x.type) with
    | some a, some b => bif Nat.beq x.offset o then some (a ++ b) else none
    | _, _ => none

def copies : Nat → List CT → List CT
  | 0, _ => []
  | n + 1, a => a ++ copies n a

def sumFs (P : Program) : List Field → Nat
  | [] => 0
  | x :: r => P.cellsOf x.type + sumFs P r

/-- The cells of a type. -/
def flatT (P : Program) : Nat → TypeId → Option (List CT)
  | 0, _ => none
  | n + 1, t => match P.underlying t with
    | some .bool => some [.b]
    | some (.int k) => some [.i k]
    | some (.slice e) => match P.underlying e with
      | some (.int k) => some [.s k]
      | _ => none
    | some (.struct fs) => bif Nat.beq (P.cellsOf t) (sumFs P fs.toList) then flatFs P (flatT P n) fs.toList 0 else none
    | some (.array m e) => bif Nat.beq (P.cellsOf t) (m * P.cellsOf e) then (match flatT P n e with | some a => some (copies m a) | none => none) else none
    | _ => none

theorem flatFs_typ {P : Program} {f : TypeId → Option (List CT)} {l : List DV} : ∀ {fs : List Field} {o : Nat} {cs : List CT}, flatFs P f fs o = some cs →
    (∀ x ∈ fs, ∀ a, f x.type = some a → Typ ((l.drop x.offset).take (P.cellsOf x.type)) a) → l.length = o + sumFs P fs → Typ (l.drop o) cs
  | [], o, cs, h, _, hl => by
    simp only [flatFs, Option.some.injEq] at h
    subst h
    rw [List.drop_eq_nil_of_le (by simp only [sumFs] at hl; omega)]
    trivial
  | x :: r, o, cs, h, hx, hl => by
    simp only [flatFs] at h
    split at h
    · rename_i a b ha hb
      obtain ⟨ho, h⟩ := cond_some h
      simp only [Option.some.injEq] at h
      subst h
      simp only [sumFs] at hl
      have h1 := hx x (by simp) a ha
      rw [nbeq.1 ho] at h1
      have h2 := flatFs_typ (l := l) hb (fun y hy => hx y (by simp [hy])) (by omega)
      refine Typ.split (n := P.cellsOf x.type) h1 ?_
      rw [List.drop_drop]
      exact h2
    · cases h

theorem copies_typ {l : List DV} {c : Nat} {a : List CT} : ∀ {m o : Nat}, (∀ i, i < m → Typ ((l.drop (o + i * c)).take c) a) → l.length = o + m * c → Typ (l.drop o) (copies m a)
  | 0, o, _, hl => by
    rw [List.drop_eq_nil_of_le (by omega)]; trivial
  | m + 1, o, h, hl => by
    have h1 := h 0 (by omega)
    simp only [Nat.zero_mul, Nat.add_zero] at h1
    refine Typ.split (n := c) h1 ?_
    rw [List.drop_drop]
    rw [Nat.succ_mul] at hl
    refine copies_typ (c := c) (fun i hi => ?_) (by omega)
    have := h (i + 1) (by omega)
    rwa [Nat.succ_mul, show o + (i * c + c) = o + c + i * c by omega] at this

theorem flatT_typ {P : Program} : ∀ {n m : Nat} {t : TypeId} {l : List DV} {cs : List CT}, flatT P n t = some cs → Wt P (m + n) t l → Typ l cs
  | 0, m, t, l, cs, h, _ => by simp [flatT] at h
  | n + 1, m, t, l, cs, h, hw => by
    rw [show m + (n + 1) = (m + n) + 1 from rfl] at hw
    unfold flatT at h
    unfold Wt at hw
    cases hu : P.underlying t with
    | none => rw [hu] at h; cases h
    | some d =>
      rw [hu] at h hw
      cases d <;> simp only at h hw <;> try (cases h; done)
      case bool =>
        simp only [Option.some.injEq] at h; subst h
        obtain ⟨b, rfl⟩ := hw
        exact ⟨⟨b, rfl⟩, trivial⟩
      case int k =>
        simp only [Option.some.injEq] at h; subst h
        obtain ⟨x, rfl, hx⟩ := hw
        exact ⟨⟨x, rfl, hx⟩, trivial⟩
      case slice e =>
        cases he : P.underlying e with
        | none => rw [he] at h; cases h
        | some d' =>
          rw [he] at h hw
          cases d' <;> simp only at h hw <;> try (cases h; done)
          case int k =>
            simp only [Option.some.injEq] at h; subst h
            obtain ⟨xs, rfl, _, hx⟩ := hw
            exact ⟨⟨xs, rfl, hx⟩, trivial⟩
      case struct fs =>
        obtain ⟨hc, h⟩ := cond_some h
        have := flatFs_typ (l := l) h (fun x hx a ha => flatT_typ (m := m) ha (hw.2 x hx)) (by rw [hw.1, nbeq.1 hc]; omega)
        simpa using this
      case array mm e =>
        obtain ⟨hc, h⟩ := cond_some h
        split at h
        · rename_i a ha
          simp only [Option.some.injEq] at h; subst h
          have := copies_typ (l := l) (o := 0) (c := P.cellsOf e) (a := a) (m := mm) (fun i hi => by rw [Nat.zero_add]; exact flatT_typ (m := m) ha (hw.2 i hi)) (by rw [hw.1, nbeq.1 hc]; omega)
          simpa using this
        · cases h

def getB : DV → Bool
  | .v (.bool x) => x
  | _ => false
def getS : DV → List Int
  | .ints _ l => l
  | _ => []

/-- Cells by the numbers, truths and lists that they hold. -/
def cellsD : List CT → Nat → (Nat → Int) → (Nat → Bool) → (Nat → List Int) → List DV
  | [], _, _, _, _ => []
  | .i k :: r, j, iv, bv, sv => .v (.int k (iv j)) :: cellsD r (j + 1) iv bv sv
  | .b :: r, j, iv, bv, sv => .v (.bool (bv j)) :: cellsD r (j + 1) iv bv sv
  | .s k :: r, j, iv, bv, sv => .ints k (sv j) :: cellsD r (j + 1) iv bv sv

theorem typ_cells {iv : Nat → Int} {bv : Nat → Bool} {sv : Nat → List Int} : ∀ {l : List DV} {cts : List CT} {j : Nat}, Typ l cts → (∀ i, i < l.length → iv (j + i) = getI (l.getD i (.v undef))) → (∀ i, i < l.length → bv (j + i) = getB (l.getD i (.v undef))) →
    (∀ i, i < l.length → sv (j + i) = getS (l.getD i (.v undef))) → l = cellsD cts j iv bv sv
  | [], [], _, _, _, _, _ => rfl
  | x :: r, c :: cs, j, h, h1, h2, h3 => by
    have ih := typ_cells (l := r) (cts := cs) (j := j + 1) h.2 (fun i hi => by have := h1 (i + 1) (by simpa using hi); rw [show j + 1 + i = j + (i + 1) by omega]; simpa using this)
      (fun i hi => by have := h2 (i + 1) (by simpa using hi); rw [show j + 1 + i = j + (i + 1) by omega]; simpa using this)
      (fun i hi => by have := h3 (i + 1) (by simpa using hi); rw [show j + 1 + i = j + (i + 1) by omega]; simpa using this)
    have e1 := h1 0 (by simp)
    have e2 := h2 0 (by simp)
    have e3 := h3 0 (by simp)
    simp only [Nat.add_zero, List.getD_cons_zero] at e1 e2 e3
    cases c with
    | i k =>
      obtain ⟨n, rfl, _⟩ := h.1
      simp only [cellsD, e1, getI]
      rw [← ih]
    | b =>
      obtain ⟨n, rfl⟩ := h.1
      simp only [cellsD, e2, getB]
      rw [← ih]
    | s k =>
      obtain ⟨n, rfl, _⟩ := h.1
      simp only [cellsD, e3, getS]
      rw [← ih]
  | [], _ :: _, _, h, _, _, _ => h.elim
  | _ :: _, [], _, h, _, _, _ => h.elim

/-- What the cells hold is within their kinds. -/
def wfC (iv : Nat → Int) (sv : Nat → List Int) : List CT → Nat → Prop
  | [], _ => True
  | .i k :: r, j => (Lit.int k (iv j)).wf = true ∧ wfC iv sv r (j + 1)
  | .b :: r, j => wfC iv sv r (j + 1)
  | .s k :: r, j => (∀ n ∈ sv j, (Lit.int k n).wf = true) ∧ wfC iv sv r (j + 1)

theorem typ_wf {iv : Nat → Int} {bv : Nat → Bool} {sv : Nat → List Int} : ∀ {cts : List CT} {j : Nat}, Typ (cellsD cts j iv bv sv) cts → wfC iv sv cts j
  | [], _, _ => trivial
  | .i k :: r, j, h => by
    obtain ⟨n, e, hn⟩ := h.1
    simp only [DV.v.injEq, Value.int.injEq, true_and] at e
    subst e
    exact ⟨hn, typ_wf h.2⟩
  | .b :: r, j, h => typ_wf (cts := r) h.2
  | .s k :: r, j, h => by
    obtain ⟨n, e, hn⟩ := h.1
    simp only [DV.ints.injEq, true_and] at e
    subst e
    exact ⟨hn, typ_wf h.2⟩

/-- An aggregate's cells, by what they hold. -/
theorem agg_arg {P : Program} {n m : Nat} {t : TypeId} {cts : List CT} {l : List DV} {cx : Cx} {w : World} {v : Value} (hf : flatT P n t = some cts) (hl : cts.length ≠ 1) (hw : Wt P (m + n) t l) (hr : DRepL cx.fz w l v.cells.toList) :
    ∃ iv bv sv, wfC iv sv cts 0 ∧ SRep cx w (.agg ((cellsD cts 0 iv bv sv).map .d)) v := by
  have ht := flatT_typ hf hw
  have e := typ_cells (iv := fun i => getI (l.getD i (.v undef))) (bv := fun i => getB (l.getD i (.v undef))) (sv := fun i => getS (l.getD i (.v undef))) (j := 0) ht (fun i _ => by simp) (fun i _ => by simp) (fun i _ => by simp)
  refine ⟨fun i => getI (l.getD i (.v undef)), fun i => getB (l.getD i (.v undef)), fun i => getS (l.getD i (.v undef)), ?_, ?_⟩
  · generalize hI : (fun i => getI (l.getD i (.v undef))) = iv at e ⊢
    generalize hB : (fun i => getB (l.getD i (.v undef))) = bv at e ⊢
    generalize hS : (fun i => getS (l.getD i (.v undef))) = sv at e ⊢
    rw [e] at ht
    exact typ_wf ht
  · rw [← e]
    refine agg_rep hr fun h1 => hl ?_
    have key : ∀ (l : List DV) (c : List CT), Typ l c → l.length = c.length := by
      intro l
      induction l with
      | nil => intro c h; cases c with
        | nil => rfl
        | cons _ _ => exact h.elim
      | cons x r ih => intro c h; cases c with
        | nil => exact h.elim
        | cons y s => simp [ih s h.2]
    rw [← key l cts ht, h1]
end Go.Sx
