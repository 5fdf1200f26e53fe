/- Plain laws of the pure memory. -/
import Derived.Test.YtpnnnklahanecaaR7
set_option linter.unusedVariables false
set_option linter.unusedSimpArgs false
namespace Go.Sx.Pr
open Go Go.Sx Go.Sx.Md

theorem okA {m : Mm} {a : Int} : Mm.ok m a = true ↔ 0 ≤ a ∧ a < (m.ws.length : Int) := by
  simp only [Mm.ok, inB, Bool.and_eq_true, decide_eq_true_eq]
theorem get_set {l : List Int} {i j : Nat} {x : Int} : (l.set i x).getD j 0 = if i = j ∧ i < l.length then x else l.getD j 0 := by
  simp only [List.getD_eq_getElem?_getD, List.getElem?_set]
  by_cases h : i = j
  · subst h
    by_cases h2 : i < l.length
    · simp [h2]
    · simp [h2, List.getElem?_eq_none (Nat.le_of_not_lt h2)]
  · simp [h]
theorem ld_load {m : Mm} {a b : Int} : mLoadV (mLoad m a) b = mLoadV m b := rfl
theorem len_mSet' {m : Mm} {g : Bool} {a x : Int} : (mSet m g a x).length = m.ws.length := by
  unfold mSet
  cases g with
  | true => rw [cond_true, List.length_set]
  | false => rfl
theorem ld_set {m m' : Mm} {g : Bool} {a b x : Int} (hg : g = true → Mm.ok m a = true) (h : m'.ws = mSet m g a x) : mLoadV m' b = if g = true ∧ a = b then x else mLoadV m b := by
  have hl : m'.ws.length = m.ws.length := by rw [h, len_mSet']
  have hk : Mm.ok m' b = Mm.ok m b := by simp only [Mm.ok, hl]
  unfold mLoadV
  rw [hk]
  cases hg' : g with
  | false =>
    have : m'.ws = m.ws := by rw [h, hg']; rfl
    simp only [Mm.get, this]
    simp
  | true =>
    have hA := okA.mp (hg hg')
    have hw : m'.ws = m.ws.set a.toNat x := by rw [h, hg']; rfl
    by_cases hab : a = b
    · subst hab
      rw [hg hg', if_pos ⟨rfl, rfl⟩, cond_true]
      simp only [Mm.get, hw, get_set]
      rw [if_pos ⟨trivial, by omega⟩]
    · rw [if_neg (fun hh => hab hh.2)]
      cases hb : Mm.ok m b with
      | false => rfl
      | true =>
        have hB := okA.mp hb
        simp only [cond_true, Mm.get, hw, get_set]
        rw [if_neg (by omega)]
theorem ld_store {m : Mm} {a b x : Int} : mLoadV (mStore m a x) b = if Mm.ok m a = true ∧ a = b then x else mLoadV m b :=
  ld_set (fun h => h) rfl
theorem casB_ok {m : Mm} {a x : Int} (h : mCasB m a x = true) : Mm.ok m a = true := by
  simp only [mCasB, Bool.and_eq_true] at h; exact h.1
theorem ld_cas {m : Mm} {a b x y : Int} : mLoadV (mCas m a x y) b = if mCasB m a x = true ∧ a = b then y else mLoadV m b :=
  ld_set casB_ok rfl
theorem casB_iff {m : Mm} {a x : Int} (hk : Mm.ok m a = true) : mCasB m a x = true ↔ mLoadV m a = x := by
  simp only [mCasB, mLoadV, hk, Bool.true_and, cond_true, beq_iff_eq]
theorem w64_id {x : Int} (h1 : -9223372036854775808 ≤ x) (h2 : x ≤ 9223372036854775807) : w64' x = x := by
  rw [w64', IntKind.wrap_i64]; omega
theorem wU_id {x : Int} (h1 : 0 ≤ x) (h2 : x < 18446744073709551616) : wU x = x := by
  rw [wU, IntKind.wrap_u64]; omega
end Go.Sx.Pr
