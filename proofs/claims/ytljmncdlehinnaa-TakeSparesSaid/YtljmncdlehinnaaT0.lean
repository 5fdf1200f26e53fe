/- The steps of one layer, program and document, against the pure model. -/
import Derived.Test.YtljmncdlehinnaaR12d
import Derived.Test.YtljmncdlehinnaaSxArg2
import Derived.Test.YtljmncdlehinnaaRows
import Derived.KernelRfl
import Derived.Test.YtljmncdlehinnaaMp
import Derived.Test.YtljmncdlehinnaaN4
import Derived.Test.YtljmncdlehinnaaMp
set_option linter.all false
set_option linter.unusedVariables false
set_option linter.unusedSimpArgs false
set_option linter.unnecessarySimpa false
namespace Go.Sx.Pr
open Go Go.Sx Go.Sx.Md Go.Proofs
set_option maxRecDepth 100000
theorem nBP_36 (m : Mm) (x : Wk) (t tw : Nat) :
    sxFn (E61 (Ω := SV × SH)) (An A61 2) C61 [.ptr 0 0, .agg (I 36 :: encT x)] (objs LM t tw m) (KT 2) =
    br (uB (mLoadV (mClear (m)) (adr (Mm.c m) 2 (Wk.slab x)))) (br (!mLoadV (mClear (m)) (adr (Mm.c m) 2 (Wk.slab x)) % 16 == 1) (some (.tup [.agg (encW { x with line := 0, V := mLoadV (mClear (m)) (adr (Mm.c m) 2 (Wk.slab x)) }), I 2, B true], (objs LM t tw (mLoad (mClear (m)) (adr (Mm.c m) 2 (Wk.slab x)))))) (some (.tup [.agg (encW { x with line := 37, V := mLoadV (mClear (m)) (adr (Mm.c m) 2 (Wk.slab x)) }), I 0, B true], (objs LM t tw (mLoad (mClear (m)) (adr (Mm.c m) 2 (Wk.slab x))))))) none := by kernel_rfl
theorem nBP_any (m : Mm) (x : Wk) (t tw : Nat) (q : Int) :
    sxFn (E61 (Ω := SV × SH)) (An A61 2) C61 [.ptr 0 0, .agg (I q :: encT x)] (objs LM t tw m) (KT 2) =
    br (decide (q < 30)) (some (.tup [.agg (encW { x with line := q }), I 0, B false], (objs LM t tw m))) (br (decide (q > 39)) (some (.tup [.agg (encW { x with line := q }), I 0, B false], (objs LM t tw m))) (br (q == 38) (some (.tup [.agg (encW { x with line := q }), I 0, B false], (objs LM t tw m))) (br (q == 30) (br (uB (wU (mAddV (mClear (m)) (adr (Mm.c m) 2 (homeV (Mm.c m) (w64' (Wk.K x - 1)))) 16 + 16))) (br (wU (mAddV (mClear (m)) (adr (Mm.c m) 2 (homeV (Mm.c m) (w64' (Wk.K x - 1)))) 16 + 16) / 16 % 4096 == Cf.c (Mm.c m)) (some (.tup [.agg (encW { x with line := 31 }), I 0, B true], (objs LM t tw (mAdd (mClear (m)) (adr (Mm.c m) 2 (homeV (Mm.c m) (w64' (Wk.K x - 1)))) 16)))) (some (.tup [.agg (encW { x with line := 0, K := 0 }), I 1, B true], (objs LM t tw (mAdd (mClear (m)) (adr (Mm.c m) 2 (homeV (Mm.c m) (w64' (Wk.K x - 1)))) 16))))) none) (br (q == 31) (some (.tup [.agg (encW { x with line := 32, V := mLoadV (mClear (m)) 0 }), I 0, B true], (objs LM t tw (mLoad (mClear (m)) 0)))) (br (q == 32) (br (uB (Wk.V x)) (some (.tup [.agg (encW { x with line := 0, K := 0 }), I 1, B true], (objs LM t tw (mStore (mClear (m)) (adr (Mm.c m) 2 (homeV (Mm.c m) (w64' (Wk.K x - 1)))) (pSlab 3 0 (Wk.V x)))))) none) (br (q == 33) (br (uB (mLoadV (mClear (m)) (adr (Mm.c m) 2 (Wk.J x))) && uB (Wk.E x)) (br (readyV (mLoadV (mClear (m)) (adr (Mm.c m) 2 (Wk.J x))) (Wk.E x)) (some (.tup [.agg (encW { x with line := 34, V := mLoadV (mClear (m)) (adr (Mm.c m) 2 (Wk.J x)) }), I 0, B true], (objs LM t tw (mLoad (mClear (m)) (adr (Mm.c m) 2 (Wk.J x)))))) (br (decide (Wk.J x ≥ IntKind.wrap .i64 (Cf.b (Mm.c m) - 1))) (some (.tup [.agg (encW { x with line := 0, V := mLoadV (mClear (m)) (adr (Mm.c m) 2 (Wk.J x)), J := IntKind.wrap .i64 (Wk.J x + 1) }), I 2, B true], (objs LM t tw (mLoad (mClear (m)) (adr (Mm.c m) 2 (Wk.J x)))))) (some (.tup [.agg (encW { x with line := q, V := mLoadV (mClear (m)) (adr (Mm.c m) 2 (Wk.J x)), J := IntKind.wrap .i64 (Wk.J x + 1) }), I 0, B true], (objs LM t tw (mLoad (mClear (m)) (adr (Mm.c m) 2 (Wk.J x)))))))) none) (br (q == 34) (br (mCasB (mClear (m)) (adr (Mm.c m) 2 (Wk.J x)) (Wk.V x)) (some (.tup [.agg (encW { x with line := 0 }), I 1, B true], (objs LM t tw (mCas (mClear (m)) (adr (Mm.c m) 2 (Wk.J x)) (Wk.V x) 1)))) (some (.tup [.agg (encW { x with line := 33 }), I 0, B true], (objs LM t tw (mCas (mClear (m)) (adr (Mm.c m) 2 (Wk.J x)) (Wk.V x) 1))))) (br (q == 36) (br (uB (mLoadV (mClear (m)) (adr (Mm.c m) 2 (Wk.slab x)))) (br (!mLoadV (mClear (m)) (adr (Mm.c m) 2 (Wk.slab x)) % 16 == 1) (some (.tup [.agg (encW { x with line := 0, V := mLoadV (mClear (m)) (adr (Mm.c m) 2 (Wk.slab x)) }), I 2, B true], (objs LM t tw (mLoad (mClear (m)) (adr (Mm.c m) 2 (Wk.slab x)))))) (some (.tup [.agg (encW { x with line := 37, V := mLoadV (mClear (m)) (adr (Mm.c m) 2 (Wk.slab x)) }), I 0, B true], (objs LM t tw (mLoad (mClear (m)) (adr (Mm.c m) 2 (Wk.slab x))))))) none) (br (q == 37) (br (mCasB (mClear (m)) (adr (Mm.c m) 2 (Wk.slab x)) (Wk.V x)) (some (.tup [.agg (encW { x with line := 0 }), I 1, B true], (objs LM t tw (mCas (mClear (m)) (adr (Mm.c m) 2 (Wk.slab x)) (Wk.V x) 2)))) (some (.tup [.agg (encW { x with line := 36 }), I 0, B true], (objs LM t tw (mCas (mClear (m)) (adr (Mm.c m) 2 (Wk.slab x)) (Wk.V x) 2))))) (br (q == 35) (br (uB (mLoadV (mClear (m)) (adr (Mm.c m) 2 (homeV (Mm.c m) (w64' (Wk.B x - 1)))))) (br (!mLoadV (mClear (m)) (adr (Mm.c m) 2 (homeV (Mm.c m) (w64' (Wk.B x - 1)))) % 16 == 2) (some (.tup [.agg (encW { x with line := 0 }), I 1, B true], (objs LM t tw (mLoad (mClear (m)) (adr (Mm.c m) 2 (homeV (Mm.c m) (w64' (Wk.B x - 1)))))))) (some (.tup [.agg (encW { x with line := 0 }), I 2, B true], (objs LM t tw (mLoad (mClear (m)) (adr (Mm.c m) 2 (homeV (Mm.c m) (w64' (Wk.B x - 1))))))))) none) (br (uB (mLoadV (mClear (m)) (adr (Mm.c m) 2 (homeV (Mm.c m) (w64' (Wk.K x - 1)))))) (br (!mLoadV (mClear (m)) (adr (Mm.c m) 2 (homeV (Mm.c m) (w64' (Wk.K x - 1)))) % 16 == 2) (some (.tup [.agg (encW { x with line := 0 }), I 1, B true], (objs LM t tw (mLoad (mClear (m)) (adr (Mm.c m) 2 (homeV (Mm.c m) (w64' (Wk.K x - 1)))))))) (some (.tup [.agg (encW { x with line := 0 }), I 2, B true], (objs LM t tw (mLoad (mClear (m)) (adr (Mm.c m) 2 (homeV (Mm.c m) (w64' (Wk.K x - 1))))))))) none))))))))))) := by kernel_rfl
theorem nBP_37 (m : Mm) (x : Wk) (t tw : Nat) :
    sxFn (E61 (Ω := SV × SH)) (An A61 2) C61 [.ptr 0 0, .agg (I 37 :: encT x)] (objs LM t tw m) (KT 2) =
    br (mCasB (mClear (m)) (adr (Mm.c m) 2 (Wk.slab x)) (Wk.V x)) (some (.tup [.agg (encW { x with line := 0 }), I 1, B true], (objs LM t tw (mCas (mClear (m)) (adr (Mm.c m) 2 (Wk.slab x)) (Wk.V x) 2)))) (some (.tup [.agg (encW { x with line := 36 }), I 0, B true], (objs LM t tw (mCas (mClear (m)) (adr (Mm.c m) 2 (Wk.slab x)) (Wk.V x) 2)))) := by kernel_rfl
theorem nBP_30 (m : Mm) (x : Wk) (t tw : Nat) :
    sxFn (E61 (Ω := SV × SH)) (An A61 2) C61 [.ptr 0 0, .agg (I 30 :: encT x)] (objs LM t tw m) (KT 2) =
    br (uB (wU (mAddV (mClear (m)) (adr (Mm.c m) 2 (homeV (Mm.c m) (w64' (Wk.K x - 1)))) 16 + 16))) (br (wU (mAddV (mClear (m)) (adr (Mm.c m) 2 (homeV (Mm.c m) (w64' (Wk.K x - 1)))) 16 + 16) / 16 % 4096 == Cf.c (Mm.c m)) (some (.tup [.agg (encW { x with line := 31 }), I 0, B true], (objs LM t tw (mAdd (mClear (m)) (adr (Mm.c m) 2 (homeV (Mm.c m) (w64' (Wk.K x - 1)))) 16)))) (some (.tup [.agg (encW { x with line := 0, K := 0 }), I 1, B true], (objs LM t tw (mAdd (mClear (m)) (adr (Mm.c m) 2 (homeV (Mm.c m) (w64' (Wk.K x - 1)))) 16))))) none := by kernel_rfl
theorem nBP_39 (m : Mm) (x : Wk) (t tw : Nat) :
    sxFn (E61 (Ω := SV × SH)) (An A61 2) C61 [.ptr 0 0, .agg (I 39 :: encT x)] (objs LM t tw m) (KT 2) =
    br (uB (mLoadV (mClear (m)) (adr (Mm.c m) 2 (homeV (Mm.c m) (w64' (Wk.K x - 1)))))) (br (!mLoadV (mClear (m)) (adr (Mm.c m) 2 (homeV (Mm.c m) (w64' (Wk.K x - 1)))) % 16 == 2) (some (.tup [.agg (encW { x with line := 0 }), I 1, B true], (objs LM t tw (mLoad (mClear (m)) (adr (Mm.c m) 2 (homeV (Mm.c m) (w64' (Wk.K x - 1)))))))) (some (.tup [.agg (encW { x with line := 0 }), I 2, B true], (objs LM t tw (mLoad (mClear (m)) (adr (Mm.c m) 2 (homeV (Mm.c m) (w64' (Wk.K x - 1))))))))) none := by kernel_rfl
theorem nBP_31 (m : Mm) (x : Wk) (t tw : Nat) :
    sxFn (E61 (Ω := SV × SH)) (An A61 2) C61 [.ptr 0 0, .agg (I 31 :: encT x)] (objs LM t tw m) (KT 2) =
    some (.tup [.agg (encW { x with line := 32, V := mLoadV (mClear (m)) 0 }), I 0, B true], (objs LM t tw (mLoad (mClear (m)) 0))) := by kernel_rfl
theorem nBP_32 (m : Mm) (x : Wk) (t tw : Nat) :
    sxFn (E61 (Ω := SV × SH)) (An A61 2) C61 [.ptr 0 0, .agg (I 32 :: encT x)] (objs LM t tw m) (KT 2) =
    br (uB (Wk.V x)) (some (.tup [.agg (encW { x with line := 0, K := 0 }), I 1, B true], (objs LM t tw (mStore (mClear (m)) (adr (Mm.c m) 2 (homeV (Mm.c m) (w64' (Wk.K x - 1)))) (pSlab 3 0 (Wk.V x)))))) none := by kernel_rfl
theorem nBP_33 (m : Mm) (x : Wk) (t tw : Nat) :
    sxFn (E61 (Ω := SV × SH)) (An A61 2) C61 [.ptr 0 0, .agg (I 33 :: encT x)] (objs LM t tw m) (KT 2) =
    br (uB (mLoadV (mClear (m)) (adr (Mm.c m) 2 (Wk.J x))) && uB (Wk.E x)) (br (readyV (mLoadV (mClear (m)) (adr (Mm.c m) 2 (Wk.J x))) (Wk.E x)) (some (.tup [.agg (encW { x with line := 34, V := mLoadV (mClear (m)) (adr (Mm.c m) 2 (Wk.J x)) }), I 0, B true], (objs LM t tw (mLoad (mClear (m)) (adr (Mm.c m) 2 (Wk.J x)))))) (br (decide (Wk.J x ≥ IntKind.wrap .i64 (Cf.b (Mm.c m) - 1))) (some (.tup [.agg (encW { x with line := 0, V := mLoadV (mClear (m)) (adr (Mm.c m) 2 (Wk.J x)), J := IntKind.wrap .i64 (Wk.J x + 1) }), I 2, B true], (objs LM t tw (mLoad (mClear (m)) (adr (Mm.c m) 2 (Wk.J x)))))) (some (.tup [.agg (encW { x with line := 33, V := mLoadV (mClear (m)) (adr (Mm.c m) 2 (Wk.J x)), J := IntKind.wrap .i64 (Wk.J x + 1) }), I 0, B true], (objs LM t tw (mLoad (mClear (m)) (adr (Mm.c m) 2 (Wk.J x)))))))) none := by kernel_rfl
theorem nBP_34 (m : Mm) (x : Wk) (t tw : Nat) :
    sxFn (E61 (Ω := SV × SH)) (An A61 2) C61 [.ptr 0 0, .agg (I 34 :: encT x)] (objs LM t tw m) (KT 2) =
    br (mCasB (mClear (m)) (adr (Mm.c m) 2 (Wk.J x)) (Wk.V x)) (some (.tup [.agg (encW { x with line := 0 }), I 1, B true], (objs LM t tw (mCas (mClear (m)) (adr (Mm.c m) 2 (Wk.J x)) (Wk.V x) 1)))) (some (.tup [.agg (encW { x with line := 33 }), I 0, B true], (objs LM t tw (mCas (mClear (m)) (adr (Mm.c m) 2 (Wk.J x)) (Wk.V x) 1)))) := by kernel_rfl
theorem nBP_35 (m : Mm) (x : Wk) (t tw : Nat) :
    sxFn (E61 (Ω := SV × SH)) (An A61 2) C61 [.ptr 0 0, .agg (I 35 :: encT x)] (objs LM t tw m) (KT 2) =
    br (uB (mLoadV (mClear (m)) (adr (Mm.c m) 2 (homeV (Mm.c m) (w64' (Wk.B x - 1)))))) (br (!mLoadV (mClear (m)) (adr (Mm.c m) 2 (homeV (Mm.c m) (w64' (Wk.B x - 1)))) % 16 == 2) (some (.tup [.agg (encW { x with line := 0 }), I 1, B true], (objs LM t tw (mLoad (mClear (m)) (adr (Mm.c m) 2 (homeV (Mm.c m) (w64' (Wk.B x - 1)))))))) (some (.tup [.agg (encW { x with line := 0 }), I 2, B true], (objs LM t tw (mLoad (mClear (m)) (adr (Mm.c m) 2 (homeV (Mm.c m) (w64' (Wk.B x - 1))))))))) none := by kernel_rfl
theorem br_sameB {α : Type} {c : Bool} {x : α} : br c x x = x := by cases c <;> rfl
abbrev OBP (q : Int) : Prop := ∀ (m : Mm) (x : Wk) (t tw : TypeId), sxFn (E61 (Ω := SV × SH)) (An A61 2) C61 [.ptr 0 0, .agg (I q :: encT x)] (objs LM t tw m) (KT 2) = some (.tup [.agg (I q :: encT x), I 0, B false], objs LM t tw m)
theorem oBP_neg (n : Nat) : OBP (Int.negSucc n) := fun m x t tw => by
  have hq : Int.negSucc n < 0 := Int.negSucc_lt_zero n
  generalize (Int.negSucc n : Int) = q at hq ⊢
  rw [nBP_any]
  simp only [decide_eq_true (show q < 30 by omega), decide_eq_true (show q ≤ 30 by omega), decide_eq_false (show ¬ q > 30 by omega), decide_eq_false (show ¬ q ≥ 30 by omega), decide_eq_true (show q < 38 by omega), decide_eq_true (show q ≤ 38 by omega), decide_eq_false (show ¬ q > 38 by omega), decide_eq_false (show ¬ q ≥ 38 by omega), decide_eq_true (show q < 39 by omega), decide_eq_true (show q ≤ 39 by omega), decide_eq_false (show ¬ q > 39 by omega), decide_eq_false (show ¬ q ≥ 39 by omega), br_t, br_f, br_sameB]
  all_goals rfl
theorem oBP_top (n : Nat) : OBP (Int.ofNat (n + 40)) := fun m x t tw => by
  have hq : Int.ofNat (n + 40) ≥ 40 := by simp only [ge_iff_le, Int.ofNat_eq_natCast]; omega
  generalize (Int.ofNat (n + 40) : Int) = q at hq ⊢
  rw [nBP_any]
  simp only [decide_eq_false (show ¬ q < 30 by omega), decide_eq_false (show ¬ q ≤ 30 by omega), decide_eq_true (show q > 30 by omega), decide_eq_true (show q ≥ 30 by omega), decide_eq_false (show ¬ q < 38 by omega), decide_eq_false (show ¬ q ≤ 38 by omega), decide_eq_true (show q > 38 by omega), decide_eq_true (show q ≥ 38 by omega), decide_eq_false (show ¬ q < 39 by omega), decide_eq_false (show ¬ q ≤ 39 by omega), decide_eq_true (show q > 39 by omega), decide_eq_true (show q ≥ 39 by omega), br_t, br_f, br_sameB]
  all_goals rfl
theorem oBP_0 : OBP (Int.ofNat 0) := fun m x t tw => by kernel_rfl
theorem oBP_1 : OBP (Int.ofNat 1) := fun m x t tw => by kernel_rfl
theorem oBP_2 : OBP (Int.ofNat 2) := fun m x t tw => by kernel_rfl
theorem oBP_3 : OBP (Int.ofNat 3) := fun m x t tw => by kernel_rfl
theorem oBP_4 : OBP (Int.ofNat 4) := fun m x t tw => by kernel_rfl
theorem oBP_5 : OBP (Int.ofNat 5) := fun m x t tw => by kernel_rfl
theorem oBP_6 : OBP (Int.ofNat 6) := fun m x t tw => by kernel_rfl
theorem oBP_7 : OBP (Int.ofNat 7) := fun m x t tw => by kernel_rfl
theorem oBP_8 : OBP (Int.ofNat 8) := fun m x t tw => by kernel_rfl
theorem oBP_9 : OBP (Int.ofNat 9) := fun m x t tw => by kernel_rfl
theorem oBP_10 : OBP (Int.ofNat 10) := fun m x t tw => by kernel_rfl
theorem oBP_11 : OBP (Int.ofNat 11) := fun m x t tw => by kernel_rfl
theorem oBP_12 : OBP (Int.ofNat 12) := fun m x t tw => by kernel_rfl
theorem oBP_13 : OBP (Int.ofNat 13) := fun m x t tw => by kernel_rfl
theorem oBP_14 : OBP (Int.ofNat 14) := fun m x t tw => by kernel_rfl
theorem oBP_15 : OBP (Int.ofNat 15) := fun m x t tw => by kernel_rfl
theorem oBP_16 : OBP (Int.ofNat 16) := fun m x t tw => by kernel_rfl
theorem oBP_17 : OBP (Int.ofNat 17) := fun m x t tw => by kernel_rfl
theorem oBP_18 : OBP (Int.ofNat 18) := fun m x t tw => by kernel_rfl
theorem oBP_19 : OBP (Int.ofNat 19) := fun m x t tw => by kernel_rfl
theorem oBP_20 : OBP (Int.ofNat 20) := fun m x t tw => by kernel_rfl
theorem oBP_21 : OBP (Int.ofNat 21) := fun m x t tw => by kernel_rfl
theorem oBP_22 : OBP (Int.ofNat 22) := fun m x t tw => by kernel_rfl
theorem oBP_23 : OBP (Int.ofNat 23) := fun m x t tw => by kernel_rfl
theorem oBP_24 : OBP (Int.ofNat 24) := fun m x t tw => by kernel_rfl
theorem oBP_25 : OBP (Int.ofNat 25) := fun m x t tw => by kernel_rfl
theorem oBP_26 : OBP (Int.ofNat 26) := fun m x t tw => by kernel_rfl
theorem oBP_27 : OBP (Int.ofNat 27) := fun m x t tw => by kernel_rfl
theorem oBP_28 : OBP (Int.ofNat 28) := fun m x t tw => by kernel_rfl
theorem oBP_29 : OBP (Int.ofNat 29) := fun m x t tw => by kernel_rfl
theorem oBP_38 : OBP (Int.ofNat 38) := fun m x t tw => by kernel_rfl
theorem mB_no {m : Mm} {x : Wk} (h : x.line ≠ 30 ∧ x.line ≠ 31 ∧ x.line ≠ 32 ∧ x.line ≠ 33 ∧ x.line ≠ 34 ∧ x.line ≠ 35 ∧ x.line ≠ 36 ∧ x.line ≠ 37 ∧ x.line ≠ 39) : stepB m x = ⟨m, x, 0, false⟩ := by
  simp only [stepB, h, ↓reduceIte]
theorem vBP_30 {m : Mm} {x : Wk} {t tw : TypeId} (hm : okM m = true) (hx : okW x = true) : sxFn (E61 (Ω := SV × SH)) (An A61 2) C61 [.ptr 0 0, .agg (I 30 :: encT x)] (objs LM t tw m) (KT 2) = some (.tup [.agg (encW (stepB m { x with line := 30 }).x), I (stepB m { x with line := 30 }).way, B (stepB m { x with line := 30 }).ok], objs LM t tw (stepB m { x with line := 30 }).m) := by
  obtain ⟨b1, b2, b3, b4, b5, b6, b7, b8, b9, b10, b11, b12⟩ := okW_all hx
  have hu := okM_u hm
  rw [nBP_30]
  try simp only [clrV, clrL, clrS, clrB, clrC, clrA, clrAV, b1, b2, b3, b4, b5, b6, b7, b8, b9, b10, b11, b12, uB_load hu, tmod_load hu, tdiv_load hu (show (0 : Int) < 2 by decide), cfg_a1 hm, low32, w64_low, vers b9, uB_vers b9, nn (uB_load hu), nn b3, nn b8, nn b9, nn b11, nn b12, ge_iff_le, Bool.and_true, Bool.true_and, br_t, mAddV_eq hu, uB_wrap, cfg_b1 hm, pSlab10, pSlab20, adrH_fold]
  simp only [stepB, Int.reduceEq, ↓reduceIte]
  cases h0 : (wU (mLoadV m (adrH m.c x.K) + 16) / 16 % 4096 == m.c.c) <;> simp only [h0, br_t, br_f, cond_true, cond_false, Bool.not_true, Bool.not_false, Bool.true_and, Bool.false_and, Bool.and_true, Bool.and_false] <;> first | rfl | (rw [eq_of_beq h0]; done) | (rw [eq_of_beq h0]; rfl)
theorem vBP_31 {m : Mm} {x : Wk} {t tw : TypeId} (hm : okM m = true) (hx : okW x = true) : sxFn (E61 (Ω := SV × SH)) (An A61 2) C61 [.ptr 0 0, .agg (I 31 :: encT x)] (objs LM t tw m) (KT 2) = some (.tup [.agg (encW (stepB m { x with line := 31 }).x), I (stepB m { x with line := 31 }).way, B (stepB m { x with line := 31 }).ok], objs LM t tw (stepB m { x with line := 31 }).m) := by
  obtain ⟨b1, b2, b3, b4, b5, b6, b7, b8, b9, b10, b11, b12⟩ := okW_all hx
  have hu := okM_u hm
  rw [nBP_31]
  try simp only [clrV, clrL, clrS, clrB, clrC, clrA, clrAV, b1, b2, b3, b4, b5, b6, b7, b8, b9, b10, b11, b12, uB_load hu, tmod_load hu, tdiv_load hu (show (0 : Int) < 2 by decide), cfg_a1 hm, low32, w64_low, vers b9, uB_vers b9, nn (uB_load hu), nn b3, nn b8, nn b9, nn b11, nn b12, ge_iff_le, Bool.and_true, Bool.true_and, br_t, mAddV_eq hu, uB_wrap, cfg_b1 hm, pSlab10, pSlab20, adrH_fold]
  simp only [stepB, Int.reduceEq, ↓reduceIte]
  all_goals rfl
theorem vBP_32 {m : Mm} {x : Wk} {t tw : TypeId} (hm : okM m = true) (hx : okW x = true) : sxFn (E61 (Ω := SV × SH)) (An A61 2) C61 [.ptr 0 0, .agg (I 32 :: encT x)] (objs LM t tw m) (KT 2) = some (.tup [.agg (encW (stepB m { x with line := 32 }).x), I (stepB m { x with line := 32 }).way, B (stepB m { x with line := 32 }).ok], objs LM t tw (stepB m { x with line := 32 }).m) := by
  obtain ⟨b1, b2, b3, b4, b5, b6, b7, b8, b9, b10, b11, b12⟩ := okW_all hx
  have hu := okM_u hm
  rw [nBP_32]
  try simp only [clrV, clrL, clrS, clrB, clrC, clrA, clrAV, b1, b2, b3, b4, b5, b6, b7, b8, b9, b10, b11, b12, uB_load hu, tmod_load hu, tdiv_load hu (show (0 : Int) < 2 by decide), cfg_a1 hm, low32, w64_low, vers b9, uB_vers b9, nn (uB_load hu), nn b3, nn b8, nn b9, nn b11, nn b12, ge_iff_le, Bool.and_true, Bool.true_and, br_t, mAddV_eq hu, uB_wrap, cfg_b1 hm, pSlab10, pSlab20, adrH_fold]
  simp only [stepB, Int.reduceEq, ↓reduceIte]
  all_goals rfl
theorem vBP_33 {m : Mm} {x : Wk} {t tw : TypeId} (hm : okM m = true) (hx : okW x = true) : sxFn (E61 (Ω := SV × SH)) (An A61 2) C61 [.ptr 0 0, .agg (I 33 :: encT x)] (objs LM t tw m) (KT 2) = some (.tup [.agg (encW (stepB m { x with line := 33 }).x), I (stepB m { x with line := 33 }).way, B (stepB m { x with line := 33 }).ok], objs LM t tw (stepB m { x with line := 33 }).m) := by
  obtain ⟨b1, b2, b3, b4, b5, b6, b7, b8, b9, b10, b11, b12⟩ := okW_all hx
  have hu := okM_u hm
  rw [nBP_33]
  try simp only [clrV, clrL, clrS, clrB, clrC, clrA, clrAV, b1, b2, b3, b4, b5, b6, b7, b8, b9, b10, b11, b12, uB_load hu, tmod_load hu, tdiv_load hu (show (0 : Int) < 2 by decide), cfg_a1 hm, low32, w64_low, vers b9, uB_vers b9, nn (uB_load hu), nn b3, nn b8, nn b9, nn b11, nn b12, ge_iff_le, Bool.and_true, Bool.true_and, br_t, mAddV_eq hu, uB_wrap, cfg_b1 hm, pSlab10, pSlab20, adrH_fold]
  simp only [stepB, Int.reduceEq, ↓reduceIte]
  cases h0 : (readyV (mLoadV m (adr m.c 2 x.J)) x.E) <;> cases h1 : (decide (m.c.b - 1 ≤ x.J)) <;> simp only [h0, h1, br_t, br_f, cond_true, cond_false, Bool.not_true, Bool.not_false, Bool.true_and, Bool.false_and, Bool.and_true, Bool.and_false] <;> first | rfl | (rw [eq_of_beq h0]; done) | (rw [eq_of_beq h0]; rfl)
theorem vBP_34 {m : Mm} {x : Wk} {t tw : TypeId} (hm : okM m = true) (hx : okW x = true) : sxFn (E61 (Ω := SV × SH)) (An A61 2) C61 [.ptr 0 0, .agg (I 34 :: encT x)] (objs LM t tw m) (KT 2) = some (.tup [.agg (encW (stepB m { x with line := 34 }).x), I (stepB m { x with line := 34 }).way, B (stepB m { x with line := 34 }).ok], objs LM t tw (stepB m { x with line := 34 }).m) := by
  obtain ⟨b1, b2, b3, b4, b5, b6, b7, b8, b9, b10, b11, b12⟩ := okW_all hx
  have hu := okM_u hm
  rw [nBP_34]
  try simp only [clrV, clrL, clrS, clrB, clrC, clrA, clrAV, b1, b2, b3, b4, b5, b6, b7, b8, b9, b10, b11, b12, uB_load hu, tmod_load hu, tdiv_load hu (show (0 : Int) < 2 by decide), cfg_a1 hm, low32, w64_low, vers b9, uB_vers b9, nn (uB_load hu), nn b3, nn b8, nn b9, nn b11, nn b12, ge_iff_le, Bool.and_true, Bool.true_and, br_t, mAddV_eq hu, uB_wrap, cfg_b1 hm, pSlab10, pSlab20, adrH_fold]
  simp only [stepB, Int.reduceEq, ↓reduceIte]
  cases h0 : (mCasB m (adr m.c 2 x.J) x.V) <;> simp only [h0, br_t, br_f, cond_true, cond_false, Bool.not_true, Bool.not_false, Bool.true_and, Bool.false_and, Bool.and_true, Bool.and_false] <;> first | rfl | (rw [eq_of_beq h0]; done) | (rw [eq_of_beq h0]; rfl)
theorem vBP_35 {m : Mm} {x : Wk} {t tw : TypeId} (hm : okM m = true) (hx : okW x = true) : sxFn (E61 (Ω := SV × SH)) (An A61 2) C61 [.ptr 0 0, .agg (I 35 :: encT x)] (objs LM t tw m) (KT 2) = some (.tup [.agg (encW (stepB m { x with line := 35 }).x), I (stepB m { x with line := 35 }).way, B (stepB m { x with line := 35 }).ok], objs LM t tw (stepB m { x with line := 35 }).m) := by
  obtain ⟨b1, b2, b3, b4, b5, b6, b7, b8, b9, b10, b11, b12⟩ := okW_all hx
  have hu := okM_u hm
  rw [nBP_35]
  try simp only [clrV, clrL, clrS, clrB, clrC, clrA, clrAV, b1, b2, b3, b4, b5, b6, b7, b8, b9, b10, b11, b12, uB_load hu, tmod_load hu, tdiv_load hu (show (0 : Int) < 2 by decide), cfg_a1 hm, low32, w64_low, vers b9, uB_vers b9, nn (uB_load hu), nn b3, nn b8, nn b9, nn b11, nn b12, ge_iff_le, Bool.and_true, Bool.true_and, br_t, mAddV_eq hu, uB_wrap, cfg_b1 hm, pSlab10, pSlab20, adrH_fold]
  simp only [stepB, Int.reduceEq, ↓reduceIte]
  cases h0 : (mLoadV m (adrH m.c x.B) % 16 == 2) <;> simp only [h0, br_t, br_f, cond_true, cond_false, Bool.not_true, Bool.not_false, Bool.true_and, Bool.false_and, Bool.and_true, Bool.and_false] <;> first | rfl | (rw [eq_of_beq h0]; done) | (rw [eq_of_beq h0]; rfl)
theorem vBP_36 {m : Mm} {x : Wk} {t tw : TypeId} (hm : okM m = true) (hx : okW x = true) : sxFn (E61 (Ω := SV × SH)) (An A61 2) C61 [.ptr 0 0, .agg (I 36 :: encT x)] (objs LM t tw m) (KT 2) = some (.tup [.agg (encW (stepB m { x with line := 36 }).x), I (stepB m { x with line := 36 }).way, B (stepB m { x with line := 36 }).ok], objs LM t tw (stepB m { x with line := 36 }).m) := by
  obtain ⟨b1, b2, b3, b4, b5, b6, b7, b8, b9, b10, b11, b12⟩ := okW_all hx
  have hu := okM_u hm
  rw [nBP_36]
  try simp only [clrV, clrL, clrS, clrB, clrC, clrA, clrAV, b1, b2, b3, b4, b5, b6, b7, b8, b9, b10, b11, b12, uB_load hu, tmod_load hu, tdiv_load hu (show (0 : Int) < 2 by decide), cfg_a1 hm, low32, w64_low, vers b9, uB_vers b9, nn (uB_load hu), nn b3, nn b8, nn b9, nn b11, nn b12, ge_iff_le, Bool.and_true, Bool.true_and, br_t, mAddV_eq hu, uB_wrap, cfg_b1 hm, pSlab10, pSlab20, adrH_fold]
  simp only [stepB, Int.reduceEq, ↓reduceIte]
  cases h0 : (mLoadV m (adr m.c 2 x.slab) % 16 == 1) <;> simp only [h0, br_t, br_f, cond_true, cond_false, Bool.not_true, Bool.not_false, Bool.true_and, Bool.false_and, Bool.and_true, Bool.and_false] <;> first | rfl | (rw [eq_of_beq h0]; done) | (rw [eq_of_beq h0]; rfl)
theorem vBP_37 {m : Mm} {x : Wk} {t tw : TypeId} (hm : okM m = true) (hx : okW x = true) : sxFn (E61 (Ω := SV × SH)) (An A61 2) C61 [.ptr 0 0, .agg (I 37 :: encT x)] (objs LM t tw m) (KT 2) = some (.tup [.agg (encW (stepB m { x with line := 37 }).x), I (stepB m { x with line := 37 }).way, B (stepB m { x with line := 37 }).ok], objs LM t tw (stepB m { x with line := 37 }).m) := by
  obtain ⟨b1, b2, b3, b4, b5, b6, b7, b8, b9, b10, b11, b12⟩ := okW_all hx
  have hu := okM_u hm
  rw [nBP_37]
  try simp only [clrV, clrL, clrS, clrB, clrC, clrA, clrAV, b1, b2, b3, b4, b5, b6, b7, b8, b9, b10, b11, b12, uB_load hu, tmod_load hu, tdiv_load hu (show (0 : Int) < 2 by decide), cfg_a1 hm, low32, w64_low, vers b9, uB_vers b9, nn (uB_load hu), nn b3, nn b8, nn b9, nn b11, nn b12, ge_iff_le, Bool.and_true, Bool.true_and, br_t, mAddV_eq hu, uB_wrap, cfg_b1 hm, pSlab10, pSlab20, adrH_fold]
  simp only [stepB, Int.reduceEq, ↓reduceIte]
  cases h0 : (mCasB m (adr m.c 2 x.slab) x.V) <;> simp only [h0, br_t, br_f, cond_true, cond_false, Bool.not_true, Bool.not_false, Bool.true_and, Bool.false_and, Bool.and_true, Bool.and_false] <;> first | rfl | (rw [eq_of_beq h0]; done) | (rw [eq_of_beq h0]; rfl)
theorem vBP_39 {m : Mm} {x : Wk} {t tw : TypeId} (hm : okM m = true) (hx : okW x = true) : sxFn (E61 (Ω := SV × SH)) (An A61 2) C61 [.ptr 0 0, .agg (I 39 :: encT x)] (objs LM t tw m) (KT 2) = some (.tup [.agg (encW (stepB m { x with line := 39 }).x), I (stepB m { x with line := 39 }).way, B (stepB m { x with line := 39 }).ok], objs LM t tw (stepB m { x with line := 39 }).m) := by
  obtain ⟨b1, b2, b3, b4, b5, b6, b7, b8, b9, b10, b11, b12⟩ := okW_all hx
  have hu := okM_u hm
  rw [nBP_39]
  try simp only [clrV, clrL, clrS, clrB, clrC, clrA, clrAV, b1, b2, b3, b4, b5, b6, b7, b8, b9, b10, b11, b12, uB_load hu, tmod_load hu, tdiv_load hu (show (0 : Int) < 2 by decide), cfg_a1 hm, low32, w64_low, vers b9, uB_vers b9, nn (uB_load hu), nn b3, nn b8, nn b9, nn b11, nn b12, ge_iff_le, Bool.and_true, Bool.true_and, br_t, mAddV_eq hu, uB_wrap, cfg_b1 hm, pSlab10, pSlab20, adrH_fold]
  simp only [stepB, Int.reduceEq, ↓reduceIte]
  cases h0 : (mLoadV m (adrH m.c x.K) % 16 == 2) <;> simp only [h0, br_t, br_f, cond_true, cond_false, Bool.not_true, Bool.not_false, Bool.true_and, Bool.false_and, Bool.and_true, Bool.and_false] <;> first | rfl | (rw [eq_of_beq h0]; done) | (rw [eq_of_beq h0]; rfl)
theorem vBP {m : Mm} {x : Wk} {t tw : TypeId} (hm : okM m = true) (hx : okW x = true) : sxFn (E61 (Ω := SV × SH)) (An A61 2) C61 [.ptr 0 0, .agg (encW x)] (objs LM t tw m) (KT 2) = some (.tup [.agg (encW (stepB m x).x), I (stepB m x).way, B (stepB m x).ok], objs LM t tw (stepB m x).m) := by
  have no : ∀ q : Int, x.line = q → OBP q → (x.line ≠ 30 ∧ x.line ≠ 31 ∧ x.line ≠ 32 ∧ x.line ≠ 33 ∧ x.line ≠ 34 ∧ x.line ≠ 35 ∧ x.line ≠ 36 ∧ x.line ≠ 37 ∧ x.line ≠ 39) → sxFn (E61 (Ω := SV × SH)) (An A61 2) C61 [.ptr 0 0, .agg (encW x)] (objs LM t tw m) (KT 2) = some (.tup [.agg (encW (stepB m x).x), I (stepB m x).way, B (stepB m x).ok], objs LM t tw (stepB m x).m) := fun q hq ho hn => by
    rw [mB_no hn]
    have := ho m x t tw
    rw [← hq] at this
    exact this
  have ye : ∀ q : Int, x.line = q → (sxFn (E61 (Ω := SV × SH)) (An A61 2) C61 [.ptr 0 0, .agg (I q :: encT x)] (objs LM t tw m) (KT 2) = some (.tup [.agg (encW (stepB m { x with line := q }).x), I (stepB m { x with line := q }).way, B (stepB m { x with line := q }).ok], objs LM t tw (stepB m { x with line := q }).m)) → sxFn (E61 (Ω := SV × SH)) (An A61 2) C61 [.ptr 0 0, .agg (encW x)] (objs LM t tw m) (KT 2) = some (.tup [.agg (encW (stepB m x).x), I (stepB m x).way, B (stepB m x).ok], objs LM t tw (stepB m x).m) := fun q hq h => by
    have e1 : { x with line := q } = x := by rw [← hq]
    have e : I q :: encT x = encW x := by simp only [encW]; rw [hq]
    rw [e1, e] at h
    exact h
  rcases hl : x.line with n | n
  · by_cases hn : 40 ≤ n
    · obtain ⟨k, rfl⟩ : ∃ k, n = k + 40 := ⟨n - 40, by omega⟩
      exact no _ hl (oBP_top k) (by rw [hl]; simp only [Int.ofNat_eq_natCast, ne_eq]; omega)
    · have : n < 40 := by omega
      match n, hl, this with
      | 0, hl, _ => exact no _ hl oBP_0 (by rw [hl]; simp only [Int.ofNat_eq_natCast, ne_eq]; omega)
      | 1, hl, _ => exact no _ hl oBP_1 (by rw [hl]; simp only [Int.ofNat_eq_natCast, ne_eq]; omega)
      | 2, hl, _ => exact no _ hl oBP_2 (by rw [hl]; simp only [Int.ofNat_eq_natCast, ne_eq]; omega)
      | 3, hl, _ => exact no _ hl oBP_3 (by rw [hl]; simp only [Int.ofNat_eq_natCast, ne_eq]; omega)
      | 4, hl, _ => exact no _ hl oBP_4 (by rw [hl]; simp only [Int.ofNat_eq_natCast, ne_eq]; omega)
      | 5, hl, _ => exact no _ hl oBP_5 (by rw [hl]; simp only [Int.ofNat_eq_natCast, ne_eq]; omega)
      | 6, hl, _ => exact no _ hl oBP_6 (by rw [hl]; simp only [Int.ofNat_eq_natCast, ne_eq]; omega)
      | 7, hl, _ => exact no _ hl oBP_7 (by rw [hl]; simp only [Int.ofNat_eq_natCast, ne_eq]; omega)
      | 8, hl, _ => exact no _ hl oBP_8 (by rw [hl]; simp only [Int.ofNat_eq_natCast, ne_eq]; omega)
      | 9, hl, _ => exact no _ hl oBP_9 (by rw [hl]; simp only [Int.ofNat_eq_natCast, ne_eq]; omega)
      | 10, hl, _ => exact no _ hl oBP_10 (by rw [hl]; simp only [Int.ofNat_eq_natCast, ne_eq]; omega)
      | 11, hl, _ => exact no _ hl oBP_11 (by rw [hl]; simp only [Int.ofNat_eq_natCast, ne_eq]; omega)
      | 12, hl, _ => exact no _ hl oBP_12 (by rw [hl]; simp only [Int.ofNat_eq_natCast, ne_eq]; omega)
      | 13, hl, _ => exact no _ hl oBP_13 (by rw [hl]; simp only [Int.ofNat_eq_natCast, ne_eq]; omega)
      | 14, hl, _ => exact no _ hl oBP_14 (by rw [hl]; simp only [Int.ofNat_eq_natCast, ne_eq]; omega)
      | 15, hl, _ => exact no _ hl oBP_15 (by rw [hl]; simp only [Int.ofNat_eq_natCast, ne_eq]; omega)
      | 16, hl, _ => exact no _ hl oBP_16 (by rw [hl]; simp only [Int.ofNat_eq_natCast, ne_eq]; omega)
      | 17, hl, _ => exact no _ hl oBP_17 (by rw [hl]; simp only [Int.ofNat_eq_natCast, ne_eq]; omega)
      | 18, hl, _ => exact no _ hl oBP_18 (by rw [hl]; simp only [Int.ofNat_eq_natCast, ne_eq]; omega)
      | 19, hl, _ => exact no _ hl oBP_19 (by rw [hl]; simp only [Int.ofNat_eq_natCast, ne_eq]; omega)
      | 20, hl, _ => exact no _ hl oBP_20 (by rw [hl]; simp only [Int.ofNat_eq_natCast, ne_eq]; omega)
      | 21, hl, _ => exact no _ hl oBP_21 (by rw [hl]; simp only [Int.ofNat_eq_natCast, ne_eq]; omega)
      | 22, hl, _ => exact no _ hl oBP_22 (by rw [hl]; simp only [Int.ofNat_eq_natCast, ne_eq]; omega)
      | 23, hl, _ => exact no _ hl oBP_23 (by rw [hl]; simp only [Int.ofNat_eq_natCast, ne_eq]; omega)
      | 24, hl, _ => exact no _ hl oBP_24 (by rw [hl]; simp only [Int.ofNat_eq_natCast, ne_eq]; omega)
      | 25, hl, _ => exact no _ hl oBP_25 (by rw [hl]; simp only [Int.ofNat_eq_natCast, ne_eq]; omega)
      | 26, hl, _ => exact no _ hl oBP_26 (by rw [hl]; simp only [Int.ofNat_eq_natCast, ne_eq]; omega)
      | 27, hl, _ => exact no _ hl oBP_27 (by rw [hl]; simp only [Int.ofNat_eq_natCast, ne_eq]; omega)
      | 28, hl, _ => exact no _ hl oBP_28 (by rw [hl]; simp only [Int.ofNat_eq_natCast, ne_eq]; omega)
      | 29, hl, _ => exact no _ hl oBP_29 (by rw [hl]; simp only [Int.ofNat_eq_natCast, ne_eq]; omega)
      | 30, hl, _ => exact ye 30 hl (vBP_30 hm hx)
      | 31, hl, _ => exact ye 31 hl (vBP_31 hm hx)
      | 32, hl, _ => exact ye 32 hl (vBP_32 hm hx)
      | 33, hl, _ => exact ye 33 hl (vBP_33 hm hx)
      | 34, hl, _ => exact ye 34 hl (vBP_34 hm hx)
      | 35, hl, _ => exact ye 35 hl (vBP_35 hm hx)
      | 36, hl, _ => exact ye 36 hl (vBP_36 hm hx)
      | 37, hl, _ => exact ye 37 hl (vBP_37 hm hx)
      | 38, hl, _ => exact no _ hl oBP_38 (by rw [hl]; simp only [Int.ofNat_eq_natCast, ne_eq]; omega)
      | 39, hl, _ => exact ye 39 hl (vBP_39 hm hx)
      | n + 40, _, h => exact absurd h (by omega)
  · exact no _ hl (oBP_neg n) (by rw [hl]; simp only [ne_eq]; omega)
def GB (m : Mm) (l : List SV) : Option (Bool × SV × Mm) := match l with
  | [.agg c] => bif isC ctsW c then some (okM m && okW (decW c), .tup [.agg (encW (stepB m (decW c)).x), I (stepB m (decW c)).way, B (stepB m (decW c)).ok], (stepB m (decW c)).m) else none
  | _ => none
def GBn (l : List SV) : Option SV := match l with
  | [.agg c] => bif isC ctsW c then some (.tup [.agg (encW (decW c)), I 0, B false]) else none
  | _ => none
theorem nB_nil (x : Wk) : sxFn (E61 (Ω := SV × SH)) (An A61 0) C61 [.d (.v (.pointer none)), .agg (encW x)] [] (KT 0) = some (.tup [.agg (encW x), I 0, B false], []) := by kernel_rfl
def S61m {Ω : Type} : Spec Ω := memSpec [none, some ctsW] (findM LM.own) [] (memF LM GB GBn)
theorem g61m : Good1 Try.prog 15 S61m := memFGood (A := A61) Try.func15 (by kernel_rfl) c61 e61 mix (L := LM) lay_M (fun m xs r m' t tw h => by
  unfold GB at h
  split at h
  · rename_i c
    obtain ⟨hc, h⟩ := cond_some h
    simp only [Option.some.injEq, Prod.mk.injEq, Bool.and_eq_true] at h
    obtain ⟨⟨hm, hx⟩, rfl, rfl⟩ := h
    rw [← enc_decW hc]
    rw [dec_encW]
    exact ⟨_, LeV.refl _, vBP hm hx⟩
  · cases h) (fun xs r h => by
  unfold GBn at h
  split at h
  · obtain ⟨hc, h⟩ := cond_some h
    simp only [Option.some.injEq] at h
    subst h
    rw [← enc_decW hc, dec_encW]
    exact nB_nil _
  · cases h)
end Go.Sx.Pr

namespace Go.Sx.Pr
open Go Go.Sx Go.Proofs
set_option maxRecDepth 100000
def K52_1 : CC := .seq (.reg false [⟨some 4, .mv (.c (.d (.v (.bool true)))), none, 0⟩])
 (.ret)
def L52_2 : CC := .seq (.seq (.reg false [⟨some 11, .mv (.t 5), none, 0⟩,
   ⟨some 12, .mv (.t 0), none, 0⟩,
   ⟨some 13, .len (.t 12), none, 0⟩,
   ⟨some 14, .bin .lss (.t 11) (.t 13), none, 0⟩])
 (.cond 14 (.skip)
   (.exit 0)))
 (.seq (.block 1 (.seq (.reg true [⟨some 17, .mv (.t 0), none, 0⟩,
     ⟨some 18, .mv (.t 5), none, 0⟩,
     ⟨some 19, .ixs 1 (.t 17) (.t 18), none, 3⟩,
     ⟨some 20, .ld 1 false (.t 19), none, 7⟩,
     ⟨some 21, .mv (.t 1), none, 0⟩,
     ⟨some 22, .mv (.t 5), none, 0⟩,
     ⟨some 23, .ixs 1 (.t 21) (.t 22), none, 48⟩,
     ⟨some 24, .ld 1 false (.t 23), none, 112⟩,
     ⟨some 25, .eq .int true (.t 20) (.t 24), none, 255⟩])
   (.cond 25 (.seq (.reg false [⟨some 4, .mv (.c (.d (.v (.bool false)))), none, 0⟩])
     (.ret))
     (.skip))))
 (.reg false [⟨some 15, .mv (.t 5), none, 0⟩,
   ⟨some 16, .bin .add (.t 15) (.c (.d (.v (.int .i64 1)))), none, 0⟩,
   ⟨some 5, .mv (.t 16), none, 0⟩]))
def K52_3 : CC := .reg false [⟨some 5, .mv (.c (.d (.v (.int .i64 0)))), none, 0⟩]
def K52_4 : CC := .seq (.reg false [⟨some 6, .mv (.t 0), none, 0⟩,
   ⟨some 7, .len (.t 6), none, 0⟩,
   ⟨some 8, .mv (.t 1), none, 0⟩,
   ⟨some 9, .len (.t 8), none, 0⟩,
   ⟨some 10, .eq .int true (.t 7) (.t 9), none, 0⟩])
 (.cond 10 (.seq (.reg false [⟨some 4, .mv (.c (.d (.v (.bool false)))), none, 0⟩])
   (.ret))
   (.skip))
def K52_5 : CC := .reg false [⟨some 4, .mv (.c (.d (.v (.bool false)))), none, 0⟩]
/-- coatcheck/coatcheckref02.Ints -/
def C52 : CF := ⟨2, [(4, none)],
 .seq K52_5 (.seq K52_4 (.seq (.seq K52_3 (.block 0 (.loop L52_2))) K52_1))⟩
theorem c52 : coF Try.prog Try.f44 = some C52 := by kernel_rfl
def A52 : Ann := { keep := [0, 1, 4, 5, 10, 14, 25], live := [(0, [0, 1, 5])] }
def E52 {Ω : Type} : Env Ω := enil
theorem e52 : GoodE Try.prog E52 := GoodE.nil
def Z52_2 {Ω : Type} (it : Itr Ω) (K : SV → SH → Option Ω) : SE → SS → Option Ω := kblk 0 (kseq it E52 A52 K52_1 0 (kfn C52 K))
end Go.Sx.Pr

/- Contract: equality of lists of numbers. -/
namespace Go.Sx.Pr
open Go Go.Sx Go.Proofs
set_option maxRecDepth 100000

/-! ### ref02.Ints -/
abbrev S52s (i : Int) (xs ys : List Int) : SS := ⟨[(0, .d (.ints .i64 xs)), (1, .d (.ints .i64 ys)), (5, I i)], []⟩
section
variable {Ω : Type} (it : Itr Ω) (IT : SS → Option Ω) (K : SV → SH → Option Ω) (xs ys : List Int) (i : Int)
theorem r52 : sxFnI it E52 A52 C52 [.d (.ints .i64 xs), .d (.ints .i64 ys)] [] K =
    br (!((xs.length : Int) == (ys.length : Int))) (K (B false) []) (it [0, 1, 5] 0 (sxI it E52 A52 L52_2 0) (S52s 0 xs ys) (Z52_2 it K)) := by kernel_rfl
theorem r52_1 : sxI it E52 A52 L52_2 0 (S52s i xs ys) (kitV [0, 1, 5] 0 IT (Z52_2 it K)) =
    br (decide (i < (xs.length : Int))) (br (inB i xs.length) (br (inB i ys.length) (br (!(xs.getD i.toNat 0 == ys.getD i.toNat 0)) (K (B false) []) (IT (S52s (IntKind.wrap .i64 (i + 1)) xs ys))) none) none) (K (B true) []) := by kernel_rfl
end

theorem loop52 {Ω : Type} (K : SV → SH → Option Ω) {xs ys : List Int} (hl : xs.length = ys.length) (hb : xs.length < 1000000000) : ∀ (k i n : Nat), xs.length - i = k → i ≤ xs.length → k < n →
    iter [0, 1, 5] 0 (sxI itB E52 A52 L52_2 0) n (S52s i xs ys) (Z52_2 itB K) = K (B (decide (xs.drop i = ys.drop i))) []
  | k, i, 0, _, _, h => by omega
  | k, i, n + 1, hk, hi, hn => by
    rw [iter_succ, r52_1]
    by_cases h : i < xs.length
    · have h1 : decide ((i : Int) < (xs.length : Int)) = true := by simp; omega
      have h2 : inB (i : Int) xs.length = true := by simp [inB]; omega
      have h3 : inB (i : Int) ys.length = true := by simp [inB]; omega
      have h4 : IntKind.wrap .i64 ((i : Int) + 1) = ((i + 1 : Nat) : Int) := by rw [w64] <;> omega
      have hy : i < ys.length := by omega
      have e1 : xs.getD ((i : Int)).toNat 0 = xs[i] := by simp [List.getD_eq_getElem?_getD, h]
      have e2 : ys.getD ((i : Int)).toNat 0 = ys[i] := by simp [List.getD_eq_getElem?_getD, hy]
      rw [h1, h2, h3, h4, e1, e2]
      simp only [br, cond_true]
      have hd : (xs.drop i = ys.drop i) ↔ (xs[i] = ys[i] ∧ xs.drop (i + 1) = ys.drop (i + 1)) := by rw [List.drop_eq_getElem_cons h, List.drop_eq_getElem_cons hy, List.cons.injEq]
      have hd' : decide (xs.drop i = ys.drop i) = decide (xs[i] = ys[i] ∧ xs.drop (i + 1) = ys.drop (i + 1)) := decide_eq_decide.2 hd
      rw [hd']
      by_cases e : xs[i] = ys[i]
      · have : (!(xs[i] == ys[i])) = false := by simp [e]
        rw [this]
        simp only [cond_false]
        rw [loop52 K hl hb (k - 1) (i + 1) n (by omega) (by omega) (by omega)]
        simp only [e, true_and]
      · have : (!(xs[i] == ys[i])) = true := by simp [e]
        rw [this]
        simp only [e, false_and, cond_true, decide_false]
    · have h1 : decide ((i : Int) < (xs.length : Int)) = false := by simp; omega
      rw [h1]
      simp only [br, cond_false]
      rw [List.drop_eq_nil_of_le (by omega), List.drop_eq_nil_of_le (by omega)]
      simp

theorem v52 {Ω : Type} (K : SV → SH → Option Ω) (xs ys : List Int) (hb : xs.length < 1000000000) : sxFn E52 A52 C52 [.d (.ints .i64 xs), .d (.ints .i64 ys)] [] K = K (B (decide (xs = ys))) [] := by
  rw [← sxFnI_eq, r52]
  by_cases h : xs.length = ys.length
  · have : (!((xs.length : Int) == (ys.length : Int))) = false := by simp [h]
    rw [this]
    simp only [br, cond_false]
    have := loop52 K h hb xs.length 0 big (by omega) (by omega) (by unfold big; omega)
    simpa [itB] using this
  · have : (!((xs.length : Int) == (ys.length : Int))) = true := by simp; omega
    rw [this]
    have : xs ≠ ys := fun e => h (by rw [e])
    simp [br, this]

def FInts : List (List Int) → Option (Bool × SV × SH)
  | [xs, ys] => some (decide (xs.length < 1000000000), B (decide (xs = ys)), [])
  | _ => none
def S52 {Ω : Type} : Spec Ω := conSpec [.s .i64, .s .i64] FInts
theorem g52 : Good1 Try.prog 44 S52 := conGood Try.func44 (by kernel_rfl) c52 e52 mix (A := A52) fun l r hr hl hF => by
  obtain ⟨xs, q, rfl, _, ys, q', rfl, _, hq⟩ := hl
  simp only [lenAs] at hq
  subst hq
  simp only [FInts, Option.some.injEq, Prod.mk.injEq] at hF
  obtain ⟨h1, rfl, rfl⟩ := hF
  exact ⟨trivial, trivial, _, trim_none rfl _, v52 _ xs ys (by simpa using h1)⟩

end Go.Sx.Pr

namespace Go.Sx.Pr
open Go Go.Sx Go.Proofs
set_option maxRecDepth 100000
end Go.Sx.Pr

namespace Go.Sx.Pr
open Go Go.Sx Go.Proofs
set_option maxRecDepth 100000
end Go.Sx.Pr

/- A worker's states compared; too great a state: what the document's functions answer. -/
namespace Go.Sx.Pr
open Go Go.Sx Go.Sx.Md Go.Proofs
set_option maxRecDepth 100000
def lenW (x : Wk) : Bool := decide (x.rack.length < 1000000000) && (decide (x.hold.length < 1000000000) && (decide (x.read.length < 1000000000) && (decide (x.l0.length < 1000000000) && (decide (x.l1.length < 1000000000) && decide (x.l2.length < 1000000000)))))
end Go.Sx.Pr

/- Contracts with memory of functions that leave some of the locs as they are. -/
namespace Go.Sx

end Go.Sx

/- All: a copy of a memory's words. -/
namespace Go.Sx.Pr
open Go Go.Sx Go.Sx.Md Go.Proofs
set_option maxRecDepth 100000
end Go.Sx.Pr

/- Contracts whose answer is a new row that nobody writes any more: data. -/
namespace Go.Sx

def altsD {Ω : Type} (k : SV → List Nat → List Nat → SH → Option Ω) (h : SH) : List (Bool × Nat × Nat × (Nat → Nat → Value)) → Option Ω
  | [] => none
  | (g, sz, n, f) :: rest => br g (k (.d (.sl sz n fun i j => .v (f i j))) [] [] h) (altsD k h rest)

def firstD : List (Bool × Nat × Nat × (Nat → Nat → Value)) → Option (Nat × Nat × (Nat → Nat → Value))
  | [] => none
  | (g, x) :: rest => bif g then some x else firstD rest

def conSpecD (ts : List AT) (F : List (List Int) → List (Bool × Nat × Nat × (Nat → Nat → Value))) {Ω : Type} : Spec Ω := fun args h k =>
  match lendAs h ts args with
  | some l => altsD k h (F l)
  | none => none

theorem altsD_first {Ω : Type} {k : SV → List Nat → List Nat → SH → Option Ω} {h : SH} {out : Ω} : ∀ {L : List (Bool × Nat × Nat × (Nat → Nat → Value))}, altsD k h L = some out → ∃ sz n f, firstD L = some (sz, n, f) ∧ k (.d (.sl sz n fun i j => .v (f i j))) [] [] h = some out
  | [], e => by cases e
  | (g, sz, n, f) :: rest, e => by
    cases g with
    | true => exact ⟨sz, n, f, rfl, e⟩
    | false =>
      obtain ⟨sz', n', f', h1, h2⟩ := altsD_first (L := rest) e
      exact ⟨sz', n', f', h1, h2⟩

theorem altsD_of {Ω : Type} {k : SV → List Nat → List Nat → SH → Option Ω} {h : SH} : ∀ {L : List (Bool × Nat × Nat × (Nat → Nat → Value))} {sz n : Nat} {f : Nat → Nat → Value}, firstD L = some (sz, n, f) → altsD k h L = k (.d (.sl sz n fun i j => .v (f i j))) [] [] h
  | [], _, _, _, e => by cases e
  | (g, x) :: rest, sz, n, f, e => by
    cases g with
    | true =>
      simp only [firstD, cond_true, Option.some.injEq] at e
      subst e
      rfl
    | false => exact altsD_of (L := rest) e

theorem conD_par {ts : List AT} {F : List (List Int) → List (Bool × Nat × Nat × (Nat → Nat → Value))} {Ω Ω' : Type} : SpecPar (conSpecD ts F (Ω := Ω)) (conSpecD ts F (Ω := Ω')) := by
  intro args h k out hs
  unfold conSpecD at hs ⊢
  split at hs
  · rename_i l hl
    obtain ⟨sz, n, f, h1, h2⟩ := altsD_first hs
    exact ⟨_, _, _, _, h2, fun k' => altsD_of h1⟩
  · cases hs

theorem conGoodD {P : Program} {g : Nat} {fn : Func} (hf : P.funcs[g]? = some fn) (hname : (fn.name == "runtime.NumGoroutine") = false) {C : CF} (hC : coF P fn = some C) {A : Ann} {e : {Ω : Type} → Env Ω} (he : GoodE P e) (hmix : P.follows .mixedOrders = true)
    {ts : List AT} {F : List (List Int) → List (Bool × Nat × Nat × (Nat → Nat → Value))}
    (hrun : ∀ l sz n f, lenAs ts l → firstD (F l) = some (sz, n, f) → ∃ L H t q, sxFn (e (Ω := SV × SH)) A C (encAs ts l) [] (fun r h => some (r, h)) = some (.own L, H) ∧ hget H L = .row t sz n q ∧ ∀ i, i < n → ∀ j, j < sz → q i j = .v (f i j)) :
    Good1 P g (fun {Ω} => conSpecD ts F (Ω := Ω)) := by
  have hbody : ∃ c, fn.body = some c := by
    unfold coF at hC
    split at hC
    · rename_i c hb; exact ⟨c, hb⟩
    · cases hC
  obtain ⟨c, hb⟩ := hbody
  have henter : ∀ (args : Array Value) (w : World), (callFunc g args).run P w = .ok (.enter g args) w := fun args w => by
    have h1 : fn.name ≠ "runtime.NumGoroutine" := by simpa using hname
    simp [callFunc, hf, h1, hb]
  refine ⟨fun Ω => ⟨henter, fun args h k out hs => ?_⟩, fun Ω Ω' => conD_par⟩
  unfold conSpecD at hs
  split at hs
  · rename_i l hl
    obtain ⟨sz, n, f, hF, hk⟩ := altsD_first hs
    obtain ⟨L, H, t, q, hrun, hrow, hq⟩ := hrun l sz n f (lendAs_len hl) hF
    refine ⟨_, [], [], _, hk, ⟨Nat.le_refl _, fun _ _ _ => rfl⟩, fun cx w vals hg ha => ?_⟩
    refine (fn_calls (he.ok _) hmix hf hC hrun (cxA w) w vals (gamL w _) (lendAs_ok hg hl ha)).mono fun e w' ⟨v, cxs, e1, gr, hr, hG⟩ => ?_
    have hsame : ∀ b, b < w.heap.size → w'.heap[b]? = w.heap[b]? := fun b hb => gr.same b (cxL_all hb)
    have hobj := hG.obj L
    rw [hrow] at hobj
    obtain ⟨hln, hrs, hcp, hz, hh⟩ := hobj
    simp only [SRep] at hr
    have hnew : cxs.nl L = false → w.heap.size ≤ cxs.th L ∧ cxs.th L < w'.heap.size := fun hnl => by
      have hlv : liv cxs H L := by simp [liv, hrow, hnl]
      refine ⟨?_, hG.lt L hlv⟩
      rcases Nat.lt_or_ge (cxs.th L) w.heap.size with h1 | h1
      · exact absurd (gr.hd _ (cxL_all h1)) (hG.own L hlv)
      · exact h1
    have gr2 : Grow0 cx w { cx with fz := fun b => cx.fz b ∨ (b = cxs.th L ∧ cxs.nl L = false) } w' :=
      ⟨fun _ hb => .inl hb, fun b hb => hsame b (hg.fzlt b hb), gr.size, fun l hl _ => ⟨hl, rfl, rfl, rfl, rfl, rfl⟩, rfl, gr.io⟩
    have hlv : ∀ l, liv { cx with fz := fun b => cx.fz b ∨ (b = cxs.th L ∧ cxs.nl L = false) } h l → liv cx h l := fun l hl => hl
    have nm : (fun l => nmem l []) = fun _ => false := funext fun l => by simp [nmem]
    rw [nm]
    refine ⟨v, _, e1, gr2, ?_, ⟨hg.n, fun m => ?_, fun m hm => Nat.lt_of_lt_of_le (hg.lt m (hlv m hm)) gr.size, fun m hm hhd => ?_, fun a b ha hb => hg.inj a b (hlv a ha) (hlv b hb), fun b hb => ?_, fun b hb hfr => ?_⟩⟩
    · simp only [SRep, DRep]
      refine ⟨_, _, by rw [← hln]; exact hr.2, hcp, fun hn => ?_⟩
      cases hnl : cxs.nl L with
      | true => have := hz hnl; omega
      | false =>
        obtain ⟨t', c', hb, hs, hc⟩ := hh hnl
        refine ⟨cxs.th L, 0, by simp [], .inr ⟨rfl, rfl⟩, fun i hi j hj => ?_⟩
        obtain ⟨x, hx, hd⟩ := hc i hi j hj
        refine ⟨x, by simp [World.cell?, ad, hb, hx], ?_⟩
        rw [hq i hi j hj] at hd
        simpa [DRep] using hd
    · rcases Nat.lt_or_ge m h.length with hm | hm
      · exact ORep.keep (h := h) gr2 (hg.n ▸ hm) _ rfl (fun hv => hsame _ (hg.lt m hv)) (hg.obj m)
      · rw [hget_ge hm]; trivial
    · have h1 := hg.lt m (hlv m hm)
      rcases hhd with (h2 | ⟨h2, h3⟩) | h2
      · exact hg.own m (hlv m hm) (.inl h2)
      · have := (hnew h3).1
        simp only at h2
        omega
      · exact hg.own m (hlv m hm) (.inr h2)
    · rcases hb with (h2 | ⟨h2, h3⟩) | h2
      · exact Nat.lt_of_lt_of_le (hg.fzlt b (.inl h2)) gr.size
      · rw [h2]; exact (hnew h3).2
      · exact Nat.lt_of_lt_of_le (hg.fzlt b (.inr h2)) gr.size
    · rcases hb with h2 | ⟨h2, h3⟩
      · exact hg.dj b h2 hfr
      · have h4 := hg.fzlt b (.inr hfr)
        have := (hnew h3).1
        omega
  · cases hs
end Go.Sx

/- All's list as data. -/
namespace Go.Sx.Pr
open Go Go.Sx Go.Sx.Md Go.Proofs
set_option maxRecDepth 100000
def FAllD : List (List Int) → List (Bool × Nat × Nat × (Nat → Nat → Value))
  | [[a, b, c, d, e, f, g, l]] => [(chk a b c d e f g l == 0, 3, sizeN a.toNat b.toNat c.toNat d.toNat e.toNat, fun i j => .int .i64 (spot a.toNat b.toNat d.toNat e.toNat i j))]
  | _ => []
def S20d {Ω : Type} : Spec Ω := conSpecD [.g cfgK] FAllD
theorem g20d : Good1 Try.prog 65 S20d := conGoodD Try.func65 (by kernel_rfl) c20 e20 mix (A := A20) fun L sz n f hl hF => by
  obtain ⟨x, rfl, hx⟩ := lenAs_one hl
  obtain ⟨a, b, c, d, e, ff, g, i, rfl⟩ := eight hx
  simp only [FAllD, firstD] at hF
  cases h : (chk a b c d e ff g i == 0) with
  | false => rw [h] at hF; cases hF
  | true =>
    rw [h] at hF
    simp only [cond_true, Option.some.injEq, Prod.mk.injEq] at hF
    obtain ⟨rfl, rfl, rfl⟩ := hF
    refine ⟨3, _, _, _, v20 _ (by simpa using h), rfl, fun i hi j hj => qAll_spot hi hj⟩
end Go.Sx.Pr

namespace Go.Sx.Pr
open Go Go.Sx Go.Proofs
set_option maxRecDepth 100000
/-- coatcheck/coatcheckref03.Great -/
def C16 : CF := ⟨1, [(2, none)],
 .seq (.reg false [⟨some 1, .box 26 8 (.t 0), none, 0⟩,
   ⟨some 2, .mv (.c (.d (.v (.bool false)))), none, 0⟩])
 (.seq (.reg false [⟨some 3, .ld 8 true (.t 1), none, 0⟩,
   ⟨some 4, .call (.c (.fn (.func 64) [] [])) [.t 3], none, 0⟩,
   ⟨some 5, .eq .int false (.t 4) (.c (.d (.v (.int .i64 0)))), none, 0⟩,
   ⟨some 6, .mv (.t 5), none, 0⟩,
   ⟨some 7, .fa 1 (.t 1), some (6, true), 0⟩,
   ⟨some 8, .ld 1 false (.t 7), some (6, true), 0⟩,
   ⟨some 9, .fa 2 (.t 1), some (6, true), 0⟩,
   ⟨some 10, .ld 1 false (.t 9), some (6, true), 0⟩,
   ⟨some 11, .bin .mul (.t 8) (.t 10), some (6, true), 0⟩,
   ⟨some 12, .bin .gtr (.t 11) (.c (.d (.v (.int .i64 40)))), some (6, true), 0⟩,
   ⟨some 13, .mv (.t 12), some (6, true), 0⟩,
   ⟨some 14, .fa 4 (.t 1), some (13, false), 0⟩,
   ⟨some 15, .ld 1 false (.t 14), some (13, false), 0⟩,
   ⟨some 16, .bin .gtr (.t 15) (.c (.d (.v (.int .i64 16)))), some (13, false), 0⟩,
   ⟨some 17, .pick (.t 13) (.c (.d (.v (.bool true)))) (.t 16), some (6, true), 0⟩,
   ⟨some 18, .pick (.t 6) (.t 17) (.c (.d (.v (.bool false)))), none, 0⟩,
   ⟨some 2, .mv (.t 18), none, 0⟩])
 (.ret))⟩
theorem c16 : coF Try.prog Try.f18 = some C16 := by kernel_rfl
def A16 : Ann := { keep := [0, 1, 2], live := [] }
def E16 {Ω : Type} : Env Ω := econs 64 S19 (enil)
theorem e16 : GoodE Try.prog E16 := GoodE.cons g19 (GoodE.nil)
def S16 {Ω : Type} : Spec Ω := inl E16 A16 C16 false
theorem g16 : Good1 Try.prog 18 S16 := Good1.inl e16 mix Try.func18 (by kernel_rfl) c16 A16 false
def K18_1 : CC := .seq (.block 0 (.seq (.reg false [⟨some 14, .mv (.t 7), none, 0⟩,
     ⟨some 15, .eq .int true (.t 14) (.c (.d (.v (.int .i64 0)))), none, 0⟩,
     ⟨some 13, .mv (.t 15), none, 0⟩])
   (.cond 13 (.seq (.reg false [⟨some 16, .mv (.t 7), none, 0⟩,
       ⟨some 4, .mv (.c (.d (.v (.pointer none)))), none, 0⟩,
       ⟨some 5, .mv (.t 16), none, 0⟩])
     (.ret))
     (.seq (.reg false [⟨some 18, .mv (.t 1), none, 0⟩,
       ⟨some 19, .len (.t 18), none, 0⟩,
       ⟨some 20, .ld 8 true (.t 6), none, 0⟩,
       ⟨some 21, .call (.c (.fn (.func 86) [] [])) [.t 20], none, 0⟩,
       ⟨some 22, .eq .int true (.t 19) (.t 21), none, 0⟩,
       ⟨some 17, .mv (.t 22), none, 0⟩])
     (.cond 17 (.seq (.reg false [⟨some 4, .mv (.c (.d (.v (.pointer none)))), none, 0⟩,
         ⟨some 5, .mv (.c (.d (.v (.int .i64 3)))), none, 0⟩])
       (.ret))
       (.skip))))))
 (.seq (.reg true [⟨some 23, .ld 8 true (.t 6), none, 0⟩,
   ⟨some 24, .mv (.t 1), none, 0⟩,
   ⟨some 25, .call (.c (.fn (.func 63) [] [])) [.t 24], none, 2⟩,
   ⟨some 26, .bld [.d (.v (.int .i64 0)), .d (.v (.int .i64 0)), .d (.v (.int .i64 0)), .d (.v (.int .i64 0)), .d (.v (.int .i64 0)), .d (.v (.int .i64 0)), .d (.v (.int .i64 0)), .d (.v (.int .u64 0)), .d (.v (.int .i64 0)), .d (.v (.int .i64 0)), .d (.v (.int .u64 0)), .d (.v (.int .u64 0)), .d (.v (.int .u64 0)), .d (.v (.slice none 0 0))] [(0, 8, .t 23), (13, 1, .t 25)], none, 7⟩,
   ⟨some 27, .box 79 14 (.t 26), none, 15⟩,
   ⟨some 4, .mv (.t 27), none, 31⟩,
   ⟨some 5, .mv (.c (.d (.v (.int .i64 0)))), none, 63⟩])
 (.ret))
def K18_2 : CC := .reg false [⟨some 9, .ld 8 true (.t 2), none, 0⟩,
   ⟨some 10, .call (.c (.fn (.func 85) [] [])) [.t 9], none, 0⟩,
   ⟨some 8, .mv (.t 10), none, 0⟩,
   ⟨some 11, .ext 0 (.t 8), none, 0⟩,
   ⟨some 12, .ext 1 (.t 8), none, 0⟩,
   ⟨some 6, .newc 75 [.d (.v (.int .i64 0)), .d (.v (.int .i64 0)), .d (.v (.int .i64 0)), .d (.v (.int .i64 0)), .d (.v (.int .i64 0)), .d (.v (.int .i64 0)), .d (.v (.int .i64 0)), .d (.v (.int .u64 0))], none, 0⟩,
   ⟨none, .st 8 (.t 6) (.t 11), none, 0⟩,
   ⟨some 7, .mv (.t 12), none, 0⟩]
def K18_3 : CC := .reg false [⟨some 2, .box 26 8 (.t 0), none, 0⟩,
   ⟨some 4, .mv (.c (.d (.v (.pointer none)))), none, 0⟩,
   ⟨some 5, .mv (.c (.d (.v (.int .i64 0)))), none, 0⟩]
/-- coatcheck/memory.From -/
def C18 : CF := ⟨2, [(4, none), (5, none)],
 .seq K18_3 (.seq K18_2 K18_1)⟩
theorem c18 : coF Try.prog Try.f49 = some C18 := by kernel_rfl
def A18 : Ann := { keep := [0, 1, 2, 4, 5, 6, 7, 13, 17], live := [] }
def E18 {Ω : Type} : Env Ω := econs 63 S65 (econs 85 S63 (econs 86 S64 (enil)))
theorem e18 : GoodE Try.prog E18 := GoodE.cons g65 (GoodE.cons g63 (GoodE.cons g64 (GoodE.nil)))
def S18 {Ω : Type} : Spec Ω := inl E18 A18 C18 false
theorem g18 : Good1 Try.prog 49 S18 := Good1.inl e18 mix Try.func49 (by kernel_rfl) c18 A18 false
/-- coatcheck/memory.New -/
def C34 : CF := ⟨1, [(2, none), (3, none)],
 .seq (.reg false [⟨some 1, .box 26 8 (.t 0), none, 0⟩,
   ⟨some 2, .mv (.c (.d (.v (.pointer none)))), none, 0⟩,
   ⟨some 3, .mv (.c (.d (.v (.int .i64 0)))), none, 0⟩])
 (.seq (.reg true [⟨some 4, .ld 8 true (.t 1), none, 0⟩,
   ⟨some 5, .ld 8 true (.t 1), none, 0⟩,
   ⟨some 6, .call (.c (.fn (.func 50) [] [])) [.t 5], none, 2⟩,
   ⟨some 7, .call (.c (.fn (.func 49) [] [])) [.t 4, .t 6], none, 7⟩,
   ⟨some 8, .ext 0 (.t 7), none, 15⟩,
   ⟨some 9, .ext 1 (.t 7), none, 15⟩,
   ⟨some 2, .mv (.t 8), none, 63⟩,
   ⟨some 3, .mv (.t 9), none, 127⟩])
 (.ret))⟩
theorem c34 : coF Try.prog Try.f12 = some C34 := by kernel_rfl
def A34 : Ann := { keep := [0, 1, 2, 3], live := [] }
def E34 {Ω : Type} : Env Ω := econs 49 S18 (econs 50 S68 (enil))
theorem e34 : GoodE Try.prog E34 := GoodE.cons g18 (GoodE.cons g68 (GoodE.nil))
end Go.Sx.Pr

/- Memory objects with their row's loc. -/
namespace Go.Sx.Pr
open Go Go.Sx Go.Sx.Md
def memC (c : Cf) (s : Ac) (o : Nat) : List SV := [I c.a, I c.b, I c.c, I c.d, I c.e, I c.f, I c.g, U c.l, I s.k, I s.a, U s.x, U s.y, U s.o, .own o]
end Go.Sx.Pr

/- The steps laws: what all of them need. -/
namespace Go.Sx.Pr
open Go Go.Sx Go.Sx.Md Go.Proofs
set_option maxRecDepth 100000

/-- True, with some heap. -/
def Tru (o : Option (SV × SH)) : Prop := ∃ H, o = some (B true, H)
theorem Tru.br {b : Bool} {x y : Option (SV × SH)} (h1 : b = true → Tru x) (h2 : b = false → Tru y) : Tru (br b x y) := by
  cases b with
  | true => exact h1 rfl
  | false => exact h2 rfl
theorem tru_ret {H : SH} : Tru (KS (B true) H) := ⟨H, rfl⟩

def szC (c : Cf) : Int := szZ c.a c.b c.c c.d c.e c.f c.g c.l

/-- What a step leaves well formed. -/
def Pres (m : Mm) (x : Wk) (r : SR) : Prop := okM r.m = true ∧ okW r.x = true ∧ lenW r.x = lenW x ∧ r.m.ws.length = m.ws.length ∧ r.m.c = m.c
theorem Pres.cond {m : Mm} {x : Wk} {a b : SR} {t : Bool} (ha : Pres m x a) (hb : Pres m x b) : Pres m x (bif t then a else b) := by
  cases t with
  | true => exact ha
  | false => exact hb
section
variable {m : Mm} {x : Wk} (hm : okM m = true) (hx : okW x = true)
 include hm hx
end
end Go.Sx.Pr

/- Helpers: results with some heap, sizes, addresses. Plain Lean. -/
namespace Go.Sx.Pr
open Go Go.Sx Go.Sx.Md Go.Proofs
set_option maxRecDepth 100000

/-- A run's result, with some heap. -/
def GivesV (o : Option (SV × SH)) (r : SV) : Prop := ∃ H, o = some (r, H)
theorem givesV {r : SV} {H : SH} : GivesV (KS r H) r := ⟨H, rfl⟩
theorem GivesV.br {b : Bool} {x y : Option (SV × SH)} {r : SV} (h1 : b = true → GivesV x r) (h2 : b = false → GivesV y r) : GivesV (br b x y) r := by
  cases b with
  | true => exact h1 rfl
  | false => exact h2 rfl
theorem bang_t {x y : Int} (h : ¬ x = y) : (!x == y) = true := by simp [h]
theorem bang_f {x y : Int} (h : x = y) : (!x == y) = false := by simp [h]

theorem szC_eq {c : Cf} (h : chkC c = 0) : szC c = ((sizeN c.a.toNat c.b.toNat c.c.toNat c.d.toNat c.e.toNat : Nat) : Int) := by
  have h' : chk c.a c.b c.c c.d c.e c.f c.g c.l = 0 := h
  simp [szC, szZ, h']
theorem u64B_at {ws : List Int} (h : u64B ws = true) {i : Nat} (hi : i < ws.length) : 0 ≤ ws.getD i 0 ∧ ws.getD i 0 ≤ 18446744073709551615 := by
  rw [List.getD_eq_getElem?_getD, List.getElem?_eq_getElem hi]
  have := List.all_eq_true.1 h _ (List.getElem_mem hi)
  simpa using this
theorem u64B_all {ws : List Int} (h : u64B ws = true) (i : Nat) : uB (ws.getD i 0) = true := by
  rw [uB_iff]
  by_cases hi : i < ws.length
  · exact u64B_at h hi
  · rw [List.getD_eq_getElem?_getD, List.getElem?_eq_none (by omega)]; simp
theorem adr2 {c : Cf} (hc : chkC c = 0) (j : Int) : adr c 2 j = if 0 ≤ j ∧ j < c.b then 3 + c.a + j else -1 := at2 hc j
end Go.Sx.Pr
