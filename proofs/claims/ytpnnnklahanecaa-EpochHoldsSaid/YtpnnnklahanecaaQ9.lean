/- The steps laws: what all of them need. -/
import Derived.Test.YtpnnnklahanecaaQ4b
set_option linter.unusedVariables false
set_option linter.unusedSimpArgs false
namespace Go.Sx.Pr
open Go Go.Sx Go.Sx.Md Go.Proofs
set_option maxRecDepth 100000

/-- True, with some heap. -/
def Tru (o : Option (SV × SH)) : Prop := ∃ H, o = some (B true, H)
theorem Tru.br {b : Bool} {x y : Option (SV × SH)} (h1 : b = true → Tru x) (h2 : b = false → Tru y) : Tru (br b x y) := by
  cases b with
  | true => exact h1 rfl
  | false => exact h2 rfl
theorem tru_ret {H : SH} : Tru (KS (B true) H) := ⟨H, rfl⟩

/-- What a step leaves well formed. -/
def Pres (m : Mm) (x : Wk) (r : SR) : Prop := okM r.m = true ∧ okW r.x = true ∧ lenW r.x = lenW x ∧ r.m.ws.length = m.ws.length ∧ r.m.c = m.c
theorem Pres.cond {m : Mm} {x : Wk} {a b : SR} {t : Bool} (ha : Pres m x a) (hb : Pres m x b) : Pres m x (bif t then a else b) := by
  cases t with
  | true => exact ha
  | false => exact hb
theorem len_mSet {m : Mm} {g : Bool} {a x : Int} : (mSet m g a x).length = m.ws.length := by
  unfold mSet
  cases g with
  | true => rw [cond_true, List.length_set]
  | false => rfl
theorem uB_low {v : Int} (h : uB v = true) : uB (v % 4294967296) = true := uB_mod h (by decide) (by decide)
section
variable {m : Mm} {x : Wk} (hm : okM m = true) (hx : okW x = true)
 include hm hx
theorem presE {w : Int} : Pres m x (stepE w m x) := by
  obtain ⟨b1, b2, b3, b4, b5, b6, b7, b8, b9, b10, b11, b12⟩ := okW_all hx
  have hu := okM_u hm
  unfold stepE
  split
  · exact ⟨okM_load hm, (by simp only [okW, b1, b2, b3, b4, b5, b6, b7, b8, b9, b10, b11, b12, uB_load hu, uB_low (uB_load hu), Bool.and_self]), rfl, rfl, rfl⟩
  · split
    · exact ⟨okM_store hm uB_pAnn, (by simp only [okW, b1, b2, b3, b4, b5, b6, b7, b8, b9, b10, b11, b12, uB_load hu, uB_low (uB_load hu), Bool.and_self]), rfl, len_mSet, rfl⟩
    · split
      · refine Pres.cond ?_ ?_
        · exact ⟨okM_load hm, (by simp only [okW, b1, b2, b3, b4, b5, b6, b7, b8, b9, b10, b11, b12, uB_load hu, uB_low (uB_load hu), Bool.and_self]), rfl, rfl, rfl⟩
        · exact ⟨okM_load hm, (by simp only [okW, b1, b2, b3, b4, b5, b6, b7, b8, b9, b10, b11, b12, uB_load hu, uB_low (uB_load hu), Bool.and_self]), rfl, rfl, rfl⟩
      · split
        · exact ⟨okM_load hm, (by simp only [okW, b1, b2, b3, b4, b5, b6, b7, b8, b9, b10, b11, b12, uB_load hu, uB_low (uB_load hu), Bool.and_self]), rfl, rfl, rfl⟩
        · split
          · refine Pres.cond ?_ ?_
            · exact ⟨okM_load hm, (by simp only [okW, b1, b2, b3, b4, b5, b6, b7, b8, b9, b10, b11, b12, uB_load hu, uB_low (uB_load hu), Bool.and_self]), rfl, rfl, rfl⟩
            · exact ⟨okM_load hm, (by simp only [okW, b1, b2, b3, b4, b5, b6, b7, b8, b9, b10, b11, b12, uB_load hu, uB_low (uB_load hu), Bool.and_self]), rfl, rfl, rfl⟩
          · split
            · exact ⟨okM_cas hm uB_wrap, (by simp only [okW, b1, b2, b3, b4, b5, b6, b7, b8, b9, b10, b11, b12, uB_load hu, uB_low (uB_load hu), Bool.and_self]), rfl, len_mSet, rfl⟩
            · split
              · exact ⟨okM_store hm uB_pAnn, (by simp only [okW, b1, b2, b3, b4, b5, b6, b7, b8, b9, b10, b11, b12, uB_load hu, uB_low (uB_load hu), Bool.and_self]), rfl, len_mSet, rfl⟩
              · exact ⟨hm, hx, rfl, rfl, rfl⟩
end
end Go.Sx.Pr
