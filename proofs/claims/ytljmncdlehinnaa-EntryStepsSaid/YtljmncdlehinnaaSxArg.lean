/- A law's arguments as symbolic values. -/
import Derived.Test.YtljmncdlehinnaaSxLoop
set_option linter.unusedVariables false
set_option linter.unusedSimpArgs false
namespace Go.Sx

def getI : DV → Int
  | .v (.int _ x) => x
  | _ => 0

theorem wt_int {P : Program} {n : Nat} {t : TypeId} {k : IntKind} (hu : P.underlying t = some (.int k)) {l : List DV} (h : Wt P (n + 1) t l) : ∃ x, l = [.v (.int k x)] ∧ (Lit.int k x).wf = true := by
  simpa only [Wt, hu] using h

/-- A struct of integers. -/
theorem wt_ints {P : Program} {n : Nat} : ∀ {ks : List IntKind} {l : List DV}, l.length = ks.length → (∀ (j : Nat) (k : IntKind), ks[j]? = some k → ∃ x, (l.drop j).take 1 = [.v (.int k x)] ∧ (Lit.int k x).wf = true) →
    ∃ xs : List Int, xs.length = ks.length ∧ l = List.zipWith (fun k x => DV.v (.int k x)) ks xs ∧ ∀ (j : Nat) (k : IntKind), ks[j]? = some k → (Lit.int k (xs.getD j 0)).wf = true
  | [], l, hl, _ => ⟨[], rfl, by simpa using hl, by simp⟩
  | k :: ks, l, hl, h => by
    match l, hl with
    | y :: r, hl =>
      obtain ⟨x, h1, h2⟩ := h 0 k rfl
      obtain ⟨xs, e1, e2, e3⟩ := wt_ints (P := P) (n := n) (ks := ks) (l := r) (by simpa using hl) (fun j k' hk => by simpa using h (j + 1) k' (by simpa using hk))
      refine ⟨x :: xs, by simp [e1], ?_, fun j k' hk => ?_⟩
      · simp only [List.zipWith_cons_cons]
        rw [← e2]
        simp at h1
        rw [h1]
      · cases j with
        | zero => simp at hk; subst hk; simpa using h2
        | succ j => simpa using e3 j k' (by simpa using hk)
    | [], hl => simp at hl

theorem u64_wf {x : Int} (h : (Lit.int .u64 x).wf = true) : 0 ≤ x ∧ x ≤ 18446744073709551615 := by
  simp only [Lit.wf, Bool.and_eq_true, IntKind.min, IntKind.max, IntKind.signed, IntKind.bits] at h
  simpa using h

theorem agg_rep {cx : Cx} {w : World} {l : List DV} {v : Value} (h : DRepL cx.fz w l v.cells.toList) (hl : l.length ≠ 1) : SRep cx w (.agg (l.map .d)) v := by
  have key : ∀ (l : List DV) (c : List Value), DRepL cx.fz w l c → SRepL cx w (l.map .d) c := by
    intro l
    induction l with
    | nil =>
      intro c h
      have : c = [] := by simpa using h.1.symm
      subst this; simp [SRepL]
    | cons x r ih =>
      intro c h
      match c, h with
      | v :: c, h =>
        simp only [List.map_cons, SRepL, SRep]
        refine ⟨by simpa using h.2 0 (by simp), ih c ⟨by simpa using h.1, fun j hj => by simpa using h.2 (j + 1) (by simpa using hj)⟩⟩
      | [], h => have := h.1; simp at this
  cases v with
  | agg c =>
    simp only [SRep]
    exact ⟨c.toList, by simp, key l _ (by simpa [Value.cells] using h)⟩
  | _ => exact absurd (by simpa [Value.cells] using h.1) hl

theorem cell_rep {fz : Nat → Prop} {w : World} {x : DV} {v : Value} (h : DRepL fz w [x] v.cells.toList) (hn : ∀ c, v ≠ .agg c) : DRep fz w x v := by
  have e : v.cells = #[v] := by
    cases v with
    | agg c => exact absurd rfl (hn c)
    | _ => rfl
  rw [e] at h
  simpa using h.2 0 (by simp)

/-- Fields of one cell, integers of these kinds. -/
def fieldsInt (P : Program) : List Field → List IntKind → Nat → Bool
  | [], [], _ => true
  | f :: fs, k :: ks, j => Nat.beq f.offset j && (Nat.beq (P.cellsOf f.type) 1 && ((match P.underlying f.type with | some (.int k') => kEq k k' | _ => false) && fieldsInt P fs ks (j + 1)))
  | _, _, _ => false

theorem fieldsInt_wt {P : Program} {n : Nat} {l : List DV} : ∀ {fs : List Field} {ks : List IntKind} {j0 : Nat}, fieldsInt P fs ks j0 = true → (∀ f ∈ fs, Wt P (n + 1) f.type ((l.drop f.offset).take (P.cellsOf f.type))) →
    ∀ (j : Nat) (k : IntKind), ks[j]? = some k → ∃ x, (l.drop (j0 + j)).take 1 = [.v (.int k x)] ∧ (Lit.int k x).wf = true
  | [], [], j0, _, _, j, k, hk => by simp at hk
  | f :: fs, k0 :: ks, j0, h, hw, j, k, hk => by
    simp only [fieldsInt, Bool.and_eq_true] at h
    obtain ⟨h1, h2, h3, h4⟩ := h
    cases j with
    | zero =>
      simp only [List.getElem?_cons_zero, Option.some.injEq] at hk
      subst hk
      have := hw f (by simp)
      rw [nbeq.1 h1, nbeq.1 h2] at this
      split at h3
      · rename_i k' hu
        rw [← kEq_eq h3] at hu
        exact wt_int hu (by simpa using this)
      · cases h3
    | succ j =>
      have := fieldsInt_wt h4 (fun f hf => hw f (by simp [hf])) j k (by simpa using hk)
      rwa [show j0 + 1 + j = j0 + (j + 1) by omega] at this
  | [], _ :: _, _, h, _, _, _, _ => by simp [fieldsInt] at h
  | _ :: _, [], _, h, _, _, _, _ => by simp [fieldsInt] at h

theorem wt_struct {P : Program} {n : Nat} {t : TypeId} {fs : Array Field} {ks : List IntKind} (hu : P.underlying t = some (.struct fs)) (hc : P.cellsOf t = ks.length) (hf : fieldsInt P fs.toList ks 0 = true) {l : List DV} (h : Wt P (n + 2) t l) :
    ∃ xs : List Int, xs.length = ks.length ∧ l = List.zipWith (fun k x => DV.v (.int k x)) ks xs ∧ ∀ (j : Nat) (k : IntKind), ks[j]? = some k → (Lit.int k (xs.getD j 0)).wf = true := by
  rw [show n + 2 = (n + 1) + 1 from rfl] at h
  simp only [Wt, hu] at h
  exact wt_ints (P := P) (n := n) (h.1.trans hc) fun j k hk => by simpa using fieldsInt_wt hf h.2 j k hk
end Go.Sx
