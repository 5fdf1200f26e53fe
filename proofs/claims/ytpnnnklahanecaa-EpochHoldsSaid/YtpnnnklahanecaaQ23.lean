/- EpochHolds: from the law's start. -/
import Derived.Test.YtpnnnklahanecaaQ22
set_option linter.unusedVariables false
set_option linter.unusedSimpArgs false
namespace Go.Sx.Pr
open Go Go.Sx Go.Sx.Md Go.Proofs
set_option maxRecDepth 100000
abbrev cfE (n : Nat) : Cf := ⟨n, 1, 1, 1, 1, 0, 1, 1⟩
theorem chkE {n : Nat} (h0 : 0 < n) (h8 : n ≤ 8) : chk (n : Int) 1 1 1 1 0 1 1 = 0 := by
  have : n = 1 ∨ n = 2 ∨ n = 3 ∨ n = 4 ∨ n = 5 ∨ n = 6 ∨ n = 7 ∨ n = 8 := by omega
  rcases this with h | h | h | h | h | h | h | h <;> subst h <;> rfl
theorem u8_lead {w : Int} (h : 0 ≤ w ∧ w ≤ 255) : ∃ n : Nat, 0 < n ∧ n ≤ 8 ∧ IntKind.wrap .i64 (1 + Int.tmod (IntKind.wrap .i64 w) 8) = (n : Int) := by
  have h1 : IntKind.wrap .i64 w = w := w64_id (by omega) (by omega)
  have h2 := Int.tmod_nonneg 8 h.1
  have h3 := Int.tmod_lt_of_pos w (b := 8) (by omega)
  refine ⟨(1 + Int.tmod w 8).toNat, by omega, by omega, ?_⟩
  rw [h1]
  have := w64_id (x := 1 + Int.tmod w 8) (by omega) (by omega)
  rw [show IntKind.wrap .i64 (1 + Int.tmod w 8) = 1 + Int.tmod w 8 from this]
  omega

theorem fl_get {n bs E m i : Nat} (h : i < n) : (fl n bs E m).getD i 0 = fpart bs E m i := by
  rw [List.getD_eq_getElem?_getD, List.getElem?_eq_getElem (by rw [fl_length]; exact h)]
  simp [fl]
theorem fl_u64 {n bs E m : Nat} (hn : E ≤ 1000) (hm : m ≤ E) : u64B (fl n bs E m) = true := by
  simp only [u64B, List.all_eq_true, Bool.and_eq_true, decide_eq_true_eq]
  intro x hx
  simp only [fl, List.mem_map, List.mem_range] at hx
  obtain ⟨i, _, rfl⟩ := hx
  unfold fpart
  repeat' split
  all_goals omega
theorem ew0 {W : Nat} {m : Mm} {a : Nat → Wk} {s : Nat → Bool} {k : Nat} : EW W m a s k wk0 false :=
  ⟨.inl rfl, fun q => by simp [wk0] at q, fun q => by simp [wk0] at q, fun q => by simp at q, fun q => by simp [wk0] at q⟩
theorem okW0 : okW wk0 = true := by decide
theorem start11 {n : Nat} (n0 : 0 < n) (n8 : n ≤ 8) : I11 n ⟨cfE n, ac0, fl (sizeN n 1 1 1 1) (3 + n + 1) 1 1⟩ (fun _ => wk0) (fun _ => false) (2 + 0) := by
  have hl : (fl (sizeN n 1 1 1 1) (3 + n + 1) 1 1).length = sizeN n 1 1 1 1 := fl_length
  have hz : 3 + n ≤ sizeN n 1 1 1 1 := by unfold sizeN; omega
  have h0 : mLoadV ⟨cfE n, ac0, fl (sizeN n 1 1 1 1) (3 + n + 1) 1 1⟩ 0 = 2 := by
    have : Mm.ok ⟨cfE n, ac0, fl (sizeN n 1 1 1 1) (3 + n + 1) 1 1⟩ 0 = true := okA.mpr ⟨Int.le_refl _, by simp only [hl]; omega⟩
    unfold mLoadV
    rw [this, cond_true]
    simp only [Mm.get, Int.toNat_zero]
    rw [fl_get (by omega)]; rfl
  generalize hm : fl (sizeN n 1 1 1 1) (3 + n + 1) 1 1 = L at hl h0 ⊢
  refine ⟨⟨chkE n0 n8, rfl, by simp only [hl]; omega, by rw [h0]; decide, by rw [h0]; decide, fun k hk => ew0⟩, ?_, fun _ _ => okW0⟩
  rw [← hm]
  simp only [okM, fl_u64 (show 1 ≤ 1000 by omega) (Nat.le_refl 1), Bool.and_true, beq_iff_eq]
  exact chkE n0 n8

theorem main11 {w : Int} {ps : List Int} (hw : 0 ≤ w ∧ w ≤ 255) (hp : ∀ x, x ∈ ps → 0 ≤ x ∧ x ≤ 255) : Tru (sxFn E11 A11 C11 [.d (.v (.int .u8 w)), .d (.ints .u8 ps)] [] KS) := by
  obtain ⟨n, n0, n8, hn⟩ := u8_lead hw
  rw [← sxFnI_eq, nL20]
  simp only [w64', hn, chkE n0 n8, beq_self_eq_true, Bool.not_true, br_f]
  refine Tru.br (fun _ => tru_ret) fun hl => ?_
  have hl' : ps.length ≤ 800 := by have := of_decide_eq_false hl; omega
  have hz : (List.length (fl (sizeN (Int.toNat (n : Int)) 1 1 1 1) (3 + Int.toNat (n : Int) + 1) 1 1) : Int) = szZ n 1 1 1 1 0 1 1 := by
    rw [fl_length]; simp [szZ, chkE n0 n8]
  have f1 : fits n 360 = true := fits_of (by omega)
  have f2 : fits n 1 = true := fits_of (by omega)
  have hs : sizeN n 1 1 1 1 ≤ 1000 := by unfold sizeN; omega
  have f3 : fits (sizeN n 1 1 1 1) 8 = true := fits_of (by omega)
  rw [hz]
  simp only [beq_self_eq_true, Bool.not_true, br_f, fl_length, Int.toNat_natCast, f1, f2, f3, decide_eq_true (show (0 : Int) ≤ n by omega), Bool.and_self, br_t]
  rw [itB_def]
  have LOOP := loop11 (c := cfE n) (n := n) (ps := ps) rfl n0 n8 hp hl' ps.length 0 big ⟨cfE n, ac0, fl (sizeN n 1 1 1 1) (3 + n + 1) 1 1⟩ (fun _ => wk0) (fun _ => false) (Nat.zero_add _) (by unfold big; omega) (start11 n0 n8)
  refine Eq.mp (congrArg Tru ?_) LOOP
  kernel_rfl
end Go.Sx.Pr
