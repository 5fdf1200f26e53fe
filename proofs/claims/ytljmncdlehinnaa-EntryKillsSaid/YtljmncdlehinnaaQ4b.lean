/- The steps of one layer, program and document, against the pure model. -/
import Derived.Test.YtljmncdlehinnaaR10
import Derived.Test.YtljmncdlehinnaaRows
import Derived.KernelRfl
import Derived.Test.YtljmncdlehinnaaSxArg2
import Derived.Test.YtljmncdlehinnaaR2
import Derived.Test.YtljmncdlehinnaaPA
set_option linter.all false
set_option linter.unusedVariables false
set_option linter.unusedSimpArgs false
set_option linter.unnecessarySimpa false
namespace Go.Sx.Pr
open Go Go.Sx Go.Sx.Md Go.Proofs
set_option maxRecDepth 100000
theorem nSP_any (m : Mm) (x : Wk) (t tw : Nat) (q : Int) :
    sxFn (E45 (Ω := SV × SH)) (An A45 2) C45 [.ptr 0 0, .agg (I q :: encT x)] (objs LM t tw m) (KT 2) =
    br (decide (q < 10)) (some (.tup [.agg (encW { x with line := q }), I 0, B false], (objs LM t tw m))) (br (decide (q > 25)) (some (.tup [.agg (encW { x with line := q }), I 0, B false], (objs LM t tw m))) (br (decide (q > 15)) (br (decide (q < 20)) (some (.tup [.agg (encW { x with line := q }), I 0, B false], (objs LM t tw m))) (br (decide (q < 20)) (br (w64' (q - IntKind.wrap .i64 (w64' (Int.tdiv q 10) * 10)) == 0) (br (wU (IntKind.wrap .u32 (mLoadV (mClear (m)) 1)) == 0) (some (.tup [.agg (encW { x with line := 0, H := wU (IntKind.wrap .u32 (mLoadV (mClear (m)) 1)), V := mLoadV (mClear (m)) 1 }), I 2, B true], (objs LM t tw (mLoad (mClear (m)) 1)))) (some (.tup [.agg (encW { x with line := IntKind.wrap .i64 (q + 1), H := wU (IntKind.wrap .u32 (mLoadV (mClear (m)) 1)), V := mLoadV (mClear (m)) 1 }), I 0, B true], (objs LM t tw (mLoad (mClear (m)) 1))))) (br (w64' (q - IntKind.wrap .i64 (w64' (Int.tdiv q 10) * 10)) == 1) (some (.tup [.agg (encW { x with line := IntKind.wrap .i64 (q + 1), N := mLoadV (mClear (m)) (adr (Mm.c m) 5 (w64' (w64' (Wk.H x) - 1))) }), I 0, B true], (objs LM t tw (mLoad (mClear (m)) (adr (Mm.c m) 5 (w64' (w64' (Wk.H x) - 1))))))) (br (w64' (q - IntKind.wrap .i64 (w64' (Int.tdiv q 10) * 10)) == 2) (br (uB (Wk.V x)) (br (uB (wU (Wk.V x / 4294967296 + 1))) (br (mCasB (mClear (m)) 1 (Wk.V x)) (some (.tup [.agg (encW { x with line := 0 }), I 1, B true], (objs LM t tw (mCas (mClear (m)) 1 (Wk.V x) (pHead (w64' (w64' (wU (IntKind.wrap .u32 (Wk.N x))) - 1)) (wU (Wk.V x / 4294967296 + 1))))))) (some (.tup [.agg (encW { x with line := IntKind.wrap .i64 (w64' (Int.tdiv q 10) * 10) }), I 0, B true], (objs LM t tw (mCas (mClear (m)) 1 (Wk.V x) (pHead (w64' (w64' (wU (IntKind.wrap .u32 (Wk.N x))) - 1)) (wU (Wk.V x / 4294967296 + 1)))))))) none) none) (br (w64' (q - IntKind.wrap .i64 (w64' (Int.tdiv q 10) * 10)) == 3) (some (.tup [.agg (encW { x with line := IntKind.wrap .i64 (q + 1), V := mLoadV (mClear (m)) 1 }), I 0, B true], (objs LM t tw (mLoad (mClear (m)) 1)))) (br (w64' (q - IntKind.wrap .i64 (w64' (Int.tdiv q 10) * 10)) == 4) (some (.tup [.agg (encW { x with line := IntKind.wrap .i64 (q + 1) }), I 0, B true], (objs LM t tw (mStore (mClear (m)) (adr (Mm.c m) 5 (w64' (Wk.K x - 1))) (wU (IntKind.wrap .u32 (Wk.V x))))))) (br (w64' (q - IntKind.wrap .i64 (w64' (Int.tdiv q 10) * 10)) == 5) (br (uB (Wk.V x)) (br (uB (wU (Wk.V x / 4294967296 + 1))) (br (mCasB (mClear (m)) 1 (Wk.V x)) (some (.tup [.agg (encW { x with line := 0 }), I 1, B true], (objs LM t tw (mCas (mClear (m)) 1 (Wk.V x) (pHead (w64' (Wk.K x - 1)) (wU (Wk.V x / 4294967296 + 1))))))) (some (.tup [.agg (encW { x with line := IntKind.wrap .i64 (w64' (w64' (Int.tdiv q 10) * 10) + 3) }), I 0, B true], (objs LM t tw (mCas (mClear (m)) 1 (Wk.V x) (pHead (w64' (Wk.K x - 1)) (wU (Wk.V x / 4294967296 + 1)))))))) none) none) (some (.tup [.agg (encW { x with line := q }), I 0, B true], (objs LM t tw (mClear (m))))))))))) (br (w64' (q - IntKind.wrap .i64 (w64' (Int.tdiv q 10) * 10)) == 0) (br (wU (IntKind.wrap .u32 (mLoadV (mClear (m)) 2)) == 0) (some (.tup [.agg (encW { x with line := 0, H := wU (IntKind.wrap .u32 (mLoadV (mClear (m)) 2)), V := mLoadV (mClear (m)) 2 }), I 2, B true], (objs LM t tw (mLoad (mClear (m)) 2)))) (some (.tup [.agg (encW { x with line := IntKind.wrap .i64 (q + 1), H := wU (IntKind.wrap .u32 (mLoadV (mClear (m)) 2)), V := mLoadV (mClear (m)) 2 }), I 0, B true], (objs LM t tw (mLoad (mClear (m)) 2))))) (br (w64' (q - IntKind.wrap .i64 (w64' (Int.tdiv q 10) * 10)) == 1) (some (.tup [.agg (encW { x with line := IntKind.wrap .i64 (q + 1), N := mLoadV (mClear (m)) (adr (Mm.c m) 4 (w64' (w64' (Wk.H x) - 1))) }), I 0, B true], (objs LM t tw (mLoad (mClear (m)) (adr (Mm.c m) 4 (w64' (w64' (Wk.H x) - 1))))))) (br (w64' (q - IntKind.wrap .i64 (w64' (Int.tdiv q 10) * 10)) == 2) (br (uB (Wk.V x)) (br (uB (wU (Wk.V x / 4294967296 + 1))) (br (mCasB (mClear (m)) 2 (Wk.V x)) (some (.tup [.agg (encW { x with line := 0 }), I 1, B true], (objs LM t tw (mCas (mClear (m)) 2 (Wk.V x) (pHead (w64' (w64' (wU (IntKind.wrap .u32 (Wk.N x))) - 1)) (wU (Wk.V x / 4294967296 + 1))))))) (some (.tup [.agg (encW { x with line := IntKind.wrap .i64 (w64' (Int.tdiv q 10) * 10) }), I 0, B true], (objs LM t tw (mCas (mClear (m)) 2 (Wk.V x) (pHead (w64' (w64' (wU (IntKind.wrap .u32 (Wk.N x))) - 1)) (wU (Wk.V x / 4294967296 + 1)))))))) none) none) (br (w64' (q - IntKind.wrap .i64 (w64' (Int.tdiv q 10) * 10)) == 3) (some (.tup [.agg (encW { x with line := IntKind.wrap .i64 (q + 1), V := mLoadV (mClear (m)) 2 }), I 0, B true], (objs LM t tw (mLoad (mClear (m)) 2)))) (br (w64' (q - IntKind.wrap .i64 (w64' (Int.tdiv q 10) * 10)) == 4) (some (.tup [.agg (encW { x with line := IntKind.wrap .i64 (q + 1) }), I 0, B true], (objs LM t tw (mStore (mClear (m)) (adr (Mm.c m) 4 (w64' (Wk.I x - 1))) (wU (IntKind.wrap .u32 (Wk.V x))))))) (br (w64' (q - IntKind.wrap .i64 (w64' (Int.tdiv q 10) * 10)) == 5) (br (uB (Wk.V x)) (br (uB (wU (Wk.V x / 4294967296 + 1))) (br (mCasB (mClear (m)) 2 (Wk.V x)) (some (.tup [.agg (encW { x with line := 0 }), I 1, B true], (objs LM t tw (mCas (mClear (m)) 2 (Wk.V x) (pHead (w64' (Wk.I x - 1)) (wU (Wk.V x / 4294967296 + 1))))))) (some (.tup [.agg (encW { x with line := IntKind.wrap .i64 (w64' (w64' (Int.tdiv q 10) * 10) + 3) }), I 0, B true], (objs LM t tw (mCas (mClear (m)) 2 (Wk.V x) (pHead (w64' (Wk.I x - 1)) (wU (Wk.V x / 4294967296 + 1)))))))) none) none) (some (.tup [.agg (encW { x with line := q }), I 0, B true], (objs LM t tw (mClear (m))))))))))))) (br (decide (q < 20)) (br (w64' (q - IntKind.wrap .i64 (w64' (Int.tdiv q 10) * 10)) == 0) (br (wU (IntKind.wrap .u32 (mLoadV (mClear (m)) 1)) == 0) (some (.tup [.agg (encW { x with line := 0, H := wU (IntKind.wrap .u32 (mLoadV (mClear (m)) 1)), V := mLoadV (mClear (m)) 1 }), I 2, B true], (objs LM t tw (mLoad (mClear (m)) 1)))) (some (.tup [.agg (encW { x with line := IntKind.wrap .i64 (q + 1), H := wU (IntKind.wrap .u32 (mLoadV (mClear (m)) 1)), V := mLoadV (mClear (m)) 1 }), I 0, B true], (objs LM t tw (mLoad (mClear (m)) 1))))) (br (w64' (q - IntKind.wrap .i64 (w64' (Int.tdiv q 10) * 10)) == 1) (some (.tup [.agg (encW { x with line := IntKind.wrap .i64 (q + 1), N := mLoadV (mClear (m)) (adr (Mm.c m) 5 (w64' (w64' (Wk.H x) - 1))) }), I 0, B true], (objs LM t tw (mLoad (mClear (m)) (adr (Mm.c m) 5 (w64' (w64' (Wk.H x) - 1))))))) (br (w64' (q - IntKind.wrap .i64 (w64' (Int.tdiv q 10) * 10)) == 2) (br (uB (Wk.V x)) (br (uB (wU (Wk.V x / 4294967296 + 1))) (br (mCasB (mClear (m)) 1 (Wk.V x)) (some (.tup [.agg (encW { x with line := 0 }), I 1, B true], (objs LM t tw (mCas (mClear (m)) 1 (Wk.V x) (pHead (w64' (w64' (wU (IntKind.wrap .u32 (Wk.N x))) - 1)) (wU (Wk.V x / 4294967296 + 1))))))) (some (.tup [.agg (encW { x with line := IntKind.wrap .i64 (w64' (Int.tdiv q 10) * 10) }), I 0, B true], (objs LM t tw (mCas (mClear (m)) 1 (Wk.V x) (pHead (w64' (w64' (wU (IntKind.wrap .u32 (Wk.N x))) - 1)) (wU (Wk.V x / 4294967296 + 1)))))))) none) none) (br (w64' (q - IntKind.wrap .i64 (w64' (Int.tdiv q 10) * 10)) == 3) (some (.tup [.agg (encW { x with line := IntKind.wrap .i64 (q + 1), V := mLoadV (mClear (m)) 1 }), I 0, B true], (objs LM t tw (mLoad (mClear (m)) 1)))) (br (w64' (q - IntKind.wrap .i64 (w64' (Int.tdiv q 10) * 10)) == 4) (some (.tup [.agg (encW { x with line := IntKind.wrap .i64 (q + 1) }), I 0, B true], (objs LM t tw (mStore (mClear (m)) (adr (Mm.c m) 5 (w64' (Wk.K x - 1))) (wU (IntKind.wrap .u32 (Wk.V x))))))) (br (w64' (q - IntKind.wrap .i64 (w64' (Int.tdiv q 10) * 10)) == 5) (br (uB (Wk.V x)) (br (uB (wU (Wk.V x / 4294967296 + 1))) (br (mCasB (mClear (m)) 1 (Wk.V x)) (some (.tup [.agg (encW { x with line := 0 }), I 1, B true], (objs LM t tw (mCas (mClear (m)) 1 (Wk.V x) (pHead (w64' (Wk.K x - 1)) (wU (Wk.V x / 4294967296 + 1))))))) (some (.tup [.agg (encW { x with line := IntKind.wrap .i64 (w64' (w64' (Int.tdiv q 10) * 10) + 3) }), I 0, B true], (objs LM t tw (mCas (mClear (m)) 1 (Wk.V x) (pHead (w64' (Wk.K x - 1)) (wU (Wk.V x / 4294967296 + 1)))))))) none) none) (some (.tup [.agg (encW { x with line := q }), I 0, B true], (objs LM t tw (mClear (m))))))))))) (br (w64' (q - IntKind.wrap .i64 (w64' (Int.tdiv q 10) * 10)) == 0) (br (wU (IntKind.wrap .u32 (mLoadV (mClear (m)) 2)) == 0) (some (.tup [.agg (encW { x with line := 0, H := wU (IntKind.wrap .u32 (mLoadV (mClear (m)) 2)), V := mLoadV (mClear (m)) 2 }), I 2, B true], (objs LM t tw (mLoad (mClear (m)) 2)))) (some (.tup [.agg (encW { x with line := IntKind.wrap .i64 (q + 1), H := wU (IntKind.wrap .u32 (mLoadV (mClear (m)) 2)), V := mLoadV (mClear (m)) 2 }), I 0, B true], (objs LM t tw (mLoad (mClear (m)) 2))))) (br (w64' (q - IntKind.wrap .i64 (w64' (Int.tdiv q 10) * 10)) == 1) (some (.tup [.agg (encW { x with line := IntKind.wrap .i64 (q + 1), N := mLoadV (mClear (m)) (adr (Mm.c m) 4 (w64' (w64' (Wk.H x) - 1))) }), I 0, B true], (objs LM t tw (mLoad (mClear (m)) (adr (Mm.c m) 4 (w64' (w64' (Wk.H x) - 1))))))) (br (w64' (q - IntKind.wrap .i64 (w64' (Int.tdiv q 10) * 10)) == 2) (br (uB (Wk.V x)) (br (uB (wU (Wk.V x / 4294967296 + 1))) (br (mCasB (mClear (m)) 2 (Wk.V x)) (some (.tup [.agg (encW { x with line := 0 }), I 1, B true], (objs LM t tw (mCas (mClear (m)) 2 (Wk.V x) (pHead (w64' (w64' (wU (IntKind.wrap .u32 (Wk.N x))) - 1)) (wU (Wk.V x / 4294967296 + 1))))))) (some (.tup [.agg (encW { x with line := IntKind.wrap .i64 (w64' (Int.tdiv q 10) * 10) }), I 0, B true], (objs LM t tw (mCas (mClear (m)) 2 (Wk.V x) (pHead (w64' (w64' (wU (IntKind.wrap .u32 (Wk.N x))) - 1)) (wU (Wk.V x / 4294967296 + 1)))))))) none) none) (br (w64' (q - IntKind.wrap .i64 (w64' (Int.tdiv q 10) * 10)) == 3) (some (.tup [.agg (encW { x with line := IntKind.wrap .i64 (q + 1), V := mLoadV (mClear (m)) 2 }), I 0, B true], (objs LM t tw (mLoad (mClear (m)) 2)))) (br (w64' (q - IntKind.wrap .i64 (w64' (Int.tdiv q 10) * 10)) == 4) (some (.tup [.agg (encW { x with line := IntKind.wrap .i64 (q + 1) }), I 0, B true], (objs LM t tw (mStore (mClear (m)) (adr (Mm.c m) 4 (w64' (Wk.I x - 1))) (wU (IntKind.wrap .u32 (Wk.V x))))))) (br (w64' (q - IntKind.wrap .i64 (w64' (Int.tdiv q 10) * 10)) == 5) (br (uB (Wk.V x)) (br (uB (wU (Wk.V x / 4294967296 + 1))) (br (mCasB (mClear (m)) 2 (Wk.V x)) (some (.tup [.agg (encW { x with line := 0 }), I 1, B true], (objs LM t tw (mCas (mClear (m)) 2 (Wk.V x) (pHead (w64' (Wk.I x - 1)) (wU (Wk.V x / 4294967296 + 1))))))) (some (.tup [.agg (encW { x with line := IntKind.wrap .i64 (w64' (w64' (Int.tdiv q 10) * 10) + 3) }), I 0, B true], (objs LM t tw (mCas (mClear (m)) 2 (Wk.V x) (pHead (w64' (Wk.I x - 1)) (wU (Wk.V x / 4294967296 + 1)))))))) none) none) (some (.tup [.agg (encW { x with line := q }), I 0, B true], (objs LM t tw (mClear (m)))))))))))))) := by kernel_rfl
theorem nSP_10 (m : Mm) (x : Wk) (t tw : Nat) :
    sxFn (E45 (Ω := SV × SH)) (An A45 2) C45 [.ptr 0 0, .agg (I 10 :: encT x)] (objs LM t tw m) (KT 2) =
    br (wU (IntKind.wrap .u32 (mLoadV (mClear (m)) 1)) == 0) (some (.tup [.agg (encW { x with line := 0, H := wU (IntKind.wrap .u32 (mLoadV (mClear (m)) 1)), V := mLoadV (mClear (m)) 1 }), I 2, B true], (objs LM t tw (mLoad (mClear (m)) 1)))) (some (.tup [.agg (encW { x with line := 11, H := wU (IntKind.wrap .u32 (mLoadV (mClear (m)) 1)), V := mLoadV (mClear (m)) 1 }), I 0, B true], (objs LM t tw (mLoad (mClear (m)) 1)))) := by kernel_rfl
theorem nSP_14 (m : Mm) (x : Wk) (t tw : Nat) :
    sxFn (E45 (Ω := SV × SH)) (An A45 2) C45 [.ptr 0 0, .agg (I 14 :: encT x)] (objs LM t tw m) (KT 2) =
    some (.tup [.agg (encW { x with line := 15 }), I 0, B true], (objs LM t tw (mStore (mClear (m)) (adr (Mm.c m) 5 (w64' (Wk.K x - 1))) (wU (IntKind.wrap .u32 (Wk.V x)))))) := by kernel_rfl
theorem nSP_22 (m : Mm) (x : Wk) (t tw : Nat) :
    sxFn (E45 (Ω := SV × SH)) (An A45 2) C45 [.ptr 0 0, .agg (I 22 :: encT x)] (objs LM t tw m) (KT 2) =
    br (uB (Wk.V x)) (br (uB (wU (Wk.V x / 4294967296 + 1))) (br (mCasB (mClear (m)) 2 (Wk.V x)) (some (.tup [.agg (encW { x with line := 0 }), I 1, B true], (objs LM t tw (mCas (mClear (m)) 2 (Wk.V x) (pHead (w64' (w64' (wU (IntKind.wrap .u32 (Wk.N x))) - 1)) (wU (Wk.V x / 4294967296 + 1))))))) (some (.tup [.agg (encW { x with line := 20 }), I 0, B true], (objs LM t tw (mCas (mClear (m)) 2 (Wk.V x) (pHead (w64' (w64' (wU (IntKind.wrap .u32 (Wk.N x))) - 1)) (wU (Wk.V x / 4294967296 + 1)))))))) none) none := by kernel_rfl
theorem nSP_11 (m : Mm) (x : Wk) (t tw : Nat) :
    sxFn (E45 (Ω := SV × SH)) (An A45 2) C45 [.ptr 0 0, .agg (I 11 :: encT x)] (objs LM t tw m) (KT 2) =
    some (.tup [.agg (encW { x with line := 12, N := mLoadV (mClear (m)) (adr (Mm.c m) 5 (w64' (w64' (Wk.H x) - 1))) }), I 0, B true], (objs LM t tw (mLoad (mClear (m)) (adr (Mm.c m) 5 (w64' (w64' (Wk.H x) - 1)))))) := by kernel_rfl
theorem nSP_15 (m : Mm) (x : Wk) (t tw : Nat) :
    sxFn (E45 (Ω := SV × SH)) (An A45 2) C45 [.ptr 0 0, .agg (I 15 :: encT x)] (objs LM t tw m) (KT 2) =
    br (uB (Wk.V x)) (br (uB (wU (Wk.V x / 4294967296 + 1))) (br (mCasB (mClear (m)) 1 (Wk.V x)) (some (.tup [.agg (encW { x with line := 0 }), I 1, B true], (objs LM t tw (mCas (mClear (m)) 1 (Wk.V x) (pHead (w64' (Wk.K x - 1)) (wU (Wk.V x / 4294967296 + 1))))))) (some (.tup [.agg (encW { x with line := 13 }), I 0, B true], (objs LM t tw (mCas (mClear (m)) 1 (Wk.V x) (pHead (w64' (Wk.K x - 1)) (wU (Wk.V x / 4294967296 + 1)))))))) none) none := by kernel_rfl
theorem nSP_23 (m : Mm) (x : Wk) (t tw : Nat) :
    sxFn (E45 (Ω := SV × SH)) (An A45 2) C45 [.ptr 0 0, .agg (I 23 :: encT x)] (objs LM t tw m) (KT 2) =
    some (.tup [.agg (encW { x with line := 24, V := mLoadV (mClear (m)) 2 }), I 0, B true], (objs LM t tw (mLoad (mClear (m)) 2))) := by kernel_rfl
theorem nSP_12 (m : Mm) (x : Wk) (t tw : Nat) :
    sxFn (E45 (Ω := SV × SH)) (An A45 2) C45 [.ptr 0 0, .agg (I 12 :: encT x)] (objs LM t tw m) (KT 2) =
    br (uB (Wk.V x)) (br (uB (wU (Wk.V x / 4294967296 + 1))) (br (mCasB (mClear (m)) 1 (Wk.V x)) (some (.tup [.agg (encW { x with line := 0 }), I 1, B true], (objs LM t tw (mCas (mClear (m)) 1 (Wk.V x) (pHead (w64' (w64' (wU (IntKind.wrap .u32 (Wk.N x))) - 1)) (wU (Wk.V x / 4294967296 + 1))))))) (some (.tup [.agg (encW { x with line := 10 }), I 0, B true], (objs LM t tw (mCas (mClear (m)) 1 (Wk.V x) (pHead (w64' (w64' (wU (IntKind.wrap .u32 (Wk.N x))) - 1)) (wU (Wk.V x / 4294967296 + 1)))))))) none) none := by kernel_rfl
theorem nSP_20 (m : Mm) (x : Wk) (t tw : Nat) :
    sxFn (E45 (Ω := SV × SH)) (An A45 2) C45 [.ptr 0 0, .agg (I 20 :: encT x)] (objs LM t tw m) (KT 2) =
    br (wU (IntKind.wrap .u32 (mLoadV (mClear (m)) 2)) == 0) (some (.tup [.agg (encW { x with line := 0, H := wU (IntKind.wrap .u32 (mLoadV (mClear (m)) 2)), V := mLoadV (mClear (m)) 2 }), I 2, B true], (objs LM t tw (mLoad (mClear (m)) 2)))) (some (.tup [.agg (encW { x with line := 21, H := wU (IntKind.wrap .u32 (mLoadV (mClear (m)) 2)), V := mLoadV (mClear (m)) 2 }), I 0, B true], (objs LM t tw (mLoad (mClear (m)) 2)))) := by kernel_rfl
theorem nSP_24 (m : Mm) (x : Wk) (t tw : Nat) :
    sxFn (E45 (Ω := SV × SH)) (An A45 2) C45 [.ptr 0 0, .agg (I 24 :: encT x)] (objs LM t tw m) (KT 2) =
    some (.tup [.agg (encW { x with line := 25 }), I 0, B true], (objs LM t tw (mStore (mClear (m)) (adr (Mm.c m) 4 (w64' (Wk.I x - 1))) (wU (IntKind.wrap .u32 (Wk.V x)))))) := by kernel_rfl
theorem nSP_13 (m : Mm) (x : Wk) (t tw : Nat) :
    sxFn (E45 (Ω := SV × SH)) (An A45 2) C45 [.ptr 0 0, .agg (I 13 :: encT x)] (objs LM t tw m) (KT 2) =
    some (.tup [.agg (encW { x with line := 14, V := mLoadV (mClear (m)) 1 }), I 0, B true], (objs LM t tw (mLoad (mClear (m)) 1))) := by kernel_rfl
theorem nSP_21 (m : Mm) (x : Wk) (t tw : Nat) :
    sxFn (E45 (Ω := SV × SH)) (An A45 2) C45 [.ptr 0 0, .agg (I 21 :: encT x)] (objs LM t tw m) (KT 2) =
    some (.tup [.agg (encW { x with line := 22, N := mLoadV (mClear (m)) (adr (Mm.c m) 4 (w64' (w64' (Wk.H x) - 1))) }), I 0, B true], (objs LM t tw (mLoad (mClear (m)) (adr (Mm.c m) 4 (w64' (w64' (Wk.H x) - 1)))))) := by kernel_rfl
theorem nSP_25 (m : Mm) (x : Wk) (t tw : Nat) :
    sxFn (E45 (Ω := SV × SH)) (An A45 2) C45 [.ptr 0 0, .agg (I 25 :: encT x)] (objs LM t tw m) (KT 2) =
    br (uB (Wk.V x)) (br (uB (wU (Wk.V x / 4294967296 + 1))) (br (mCasB (mClear (m)) 2 (Wk.V x)) (some (.tup [.agg (encW { x with line := 0 }), I 1, B true], (objs LM t tw (mCas (mClear (m)) 2 (Wk.V x) (pHead (w64' (Wk.I x - 1)) (wU (Wk.V x / 4294967296 + 1))))))) (some (.tup [.agg (encW { x with line := 23 }), I 0, B true], (objs LM t tw (mCas (mClear (m)) 2 (Wk.V x) (pHead (w64' (Wk.I x - 1)) (wU (Wk.V x / 4294967296 + 1)))))))) none) none := by kernel_rfl
abbrev OSP (q : Int) : Prop := ∀ (m : Mm) (x : Wk) (t tw : TypeId), sxFn (E45 (Ω := SV × SH)) (An A45 2) C45 [.ptr 0 0, .agg (I q :: encT x)] (objs LM t tw m) (KT 2) = some (.tup [.agg (I q :: encT x), I 0, B false], objs LM t tw m)
theorem oSP_neg (n : Nat) : OSP (Int.negSucc n) := fun m x t tw => by
  have hq : Int.negSucc n < 0 := Int.negSucc_lt_zero n
  generalize (Int.negSucc n : Int) = q at hq ⊢
  rw [nSP_any]
  simp only [decide_eq_true (show q < 10 by omega), decide_eq_true (show q ≤ 10 by omega), decide_eq_false (show ¬ q > 10 by omega), decide_eq_false (show ¬ q ≥ 10 by omega), decide_eq_true (show q < 15 by omega), decide_eq_true (show q ≤ 15 by omega), decide_eq_false (show ¬ q > 15 by omega), decide_eq_false (show ¬ q ≥ 15 by omega), decide_eq_true (show q < 20 by omega), decide_eq_true (show q ≤ 20 by omega), decide_eq_false (show ¬ q > 20 by omega), decide_eq_false (show ¬ q ≥ 20 by omega), decide_eq_true (show q < 25 by omega), decide_eq_true (show q ≤ 25 by omega), decide_eq_false (show ¬ q > 25 by omega), decide_eq_false (show ¬ q ≥ 25 by omega), br_t, br_f]
  all_goals rfl
theorem oSP_top (n : Nat) : OSP (Int.ofNat (n + 26)) := fun m x t tw => by
  have hq : Int.ofNat (n + 26) ≥ 26 := by simp only [ge_iff_le, Int.ofNat_eq_natCast]; omega
  generalize (Int.ofNat (n + 26) : Int) = q at hq ⊢
  rw [nSP_any]
  simp only [decide_eq_false (show ¬ q < 10 by omega), decide_eq_false (show ¬ q ≤ 10 by omega), decide_eq_true (show q > 10 by omega), decide_eq_true (show q ≥ 10 by omega), decide_eq_false (show ¬ q < 15 by omega), decide_eq_false (show ¬ q ≤ 15 by omega), decide_eq_true (show q > 15 by omega), decide_eq_true (show q ≥ 15 by omega), decide_eq_false (show ¬ q < 20 by omega), decide_eq_false (show ¬ q ≤ 20 by omega), decide_eq_true (show q > 20 by omega), decide_eq_true (show q ≥ 20 by omega), decide_eq_false (show ¬ q < 25 by omega), decide_eq_false (show ¬ q ≤ 25 by omega), decide_eq_true (show q > 25 by omega), decide_eq_true (show q ≥ 25 by omega), br_t, br_f]
  all_goals rfl
theorem oSP_0 : OSP (Int.ofNat 0) := fun m x t tw => by kernel_rfl
theorem oSP_1 : OSP (Int.ofNat 1) := fun m x t tw => by kernel_rfl
theorem oSP_2 : OSP (Int.ofNat 2) := fun m x t tw => by kernel_rfl
theorem oSP_3 : OSP (Int.ofNat 3) := fun m x t tw => by kernel_rfl
theorem oSP_4 : OSP (Int.ofNat 4) := fun m x t tw => by kernel_rfl
theorem oSP_5 : OSP (Int.ofNat 5) := fun m x t tw => by kernel_rfl
theorem oSP_6 : OSP (Int.ofNat 6) := fun m x t tw => by kernel_rfl
theorem oSP_7 : OSP (Int.ofNat 7) := fun m x t tw => by kernel_rfl
theorem oSP_8 : OSP (Int.ofNat 8) := fun m x t tw => by kernel_rfl
theorem oSP_9 : OSP (Int.ofNat 9) := fun m x t tw => by kernel_rfl
theorem oSP_16 : OSP (Int.ofNat 16) := fun m x t tw => by kernel_rfl
theorem oSP_17 : OSP (Int.ofNat 17) := fun m x t tw => by kernel_rfl
theorem oSP_18 : OSP (Int.ofNat 18) := fun m x t tw => by kernel_rfl
theorem oSP_19 : OSP (Int.ofNat 19) := fun m x t tw => by kernel_rfl
theorem mS_no {m : Mm} {x : Wk} (h : x.line ≠ 10 ∧ x.line ≠ 11 ∧ x.line ≠ 12 ∧ x.line ≠ 13 ∧ x.line ≠ 14 ∧ x.line ≠ 15 ∧ x.line ≠ 20 ∧ x.line ≠ 21 ∧ x.line ≠ 22 ∧ x.line ≠ 23 ∧ x.line ≠ 24 ∧ x.line ≠ 25) : stepS m x = ⟨m, x, 0, false⟩ := by
  have h1 : ¬ (10 ≤ x.line ∧ x.line ≤ 15) := by omega
  have h2 : ¬ (20 ≤ x.line ∧ x.line ≤ 25) := by omega
  simp only [stepS, h1, h2, ↓reduceIte]
theorem vSP_10 {m : Mm} {x : Wk} {t tw : TypeId} (hm : okM m = true) (hx : okW x = true) : sxFn (E45 (Ω := SV × SH)) (An A45 2) C45 [.ptr 0 0, .agg (I 10 :: encT x)] (objs LM t tw m) (KT 2) = some (.tup [.agg (encW (stepS m { x with line := 10 }).x), I (stepS m { x with line := 10 }).way, B (stepS m { x with line := 10 }).ok], objs LM t tw (stepS m { x with line := 10 }).m) := by
  obtain ⟨b1, b2, b3, b4, b5, b6, b7, b8, b9, b10, b11, b12⟩ := okW_all hx
  have hu := okM_u hm
  rw [nSP_10]
  try simp only [clrV, clrL, clrS, clrB, clrC, clrA, clrAV, b1, b2, b3, b4, b5, b6, b7, b8, b9, b10, b11, b12, uB_load hu, tmod_load hu, tdiv_load hu (show (0 : Int) < 2 by decide), cfg_a1 hm, low32, w64_low, vers b9, uB_vers b9, nn (uB_load hu), nn b3, nn b8, nn b9, nn b11, nn b12, ge_iff_le, Bool.and_true, Bool.true_and, br_t]
  simp only [stepS, Int.reduceEq, ↓reduceIte, stepL, Int.reduceLE, and_self, and_true, and_false, Int.reduceAdd]
  cases h0 : (mLoadV m 1 % 4294967296 == 0) <;> simp only [h0, br_t, br_f, cond_true, cond_false, Bool.not_true, Bool.not_false, Bool.true_and, Bool.false_and, Bool.and_true, Bool.and_false] <;> first | rfl | (rw [eq_of_beq h0]; done) | (rw [eq_of_beq h0]; rfl)
theorem vSP_11 {m : Mm} {x : Wk} {t tw : TypeId} (hm : okM m = true) (hx : okW x = true) : sxFn (E45 (Ω := SV × SH)) (An A45 2) C45 [.ptr 0 0, .agg (I 11 :: encT x)] (objs LM t tw m) (KT 2) = some (.tup [.agg (encW (stepS m { x with line := 11 }).x), I (stepS m { x with line := 11 }).way, B (stepS m { x with line := 11 }).ok], objs LM t tw (stepS m { x with line := 11 }).m) := by
  obtain ⟨b1, b2, b3, b4, b5, b6, b7, b8, b9, b10, b11, b12⟩ := okW_all hx
  have hu := okM_u hm
  rw [nSP_11]
  try simp only [clrV, clrL, clrS, clrB, clrC, clrA, clrAV, b1, b2, b3, b4, b5, b6, b7, b8, b9, b10, b11, b12, uB_load hu, tmod_load hu, tdiv_load hu (show (0 : Int) < 2 by decide), cfg_a1 hm, low32, w64_low, vers b9, uB_vers b9, nn (uB_load hu), nn b3, nn b8, nn b9, nn b11, nn b12, ge_iff_le, Bool.and_true, Bool.true_and, br_t]
  simp only [stepS, Int.reduceEq, ↓reduceIte, stepL, Int.reduceLE, and_self, and_true, and_false, Int.reduceAdd]
  all_goals rfl
theorem vSP_12 {m : Mm} {x : Wk} {t tw : TypeId} (hm : okM m = true) (hx : okW x = true) : sxFn (E45 (Ω := SV × SH)) (An A45 2) C45 [.ptr 0 0, .agg (I 12 :: encT x)] (objs LM t tw m) (KT 2) = some (.tup [.agg (encW (stepS m { x with line := 12 }).x), I (stepS m { x with line := 12 }).way, B (stepS m { x with line := 12 }).ok], objs LM t tw (stepS m { x with line := 12 }).m) := by
  obtain ⟨b1, b2, b3, b4, b5, b6, b7, b8, b9, b10, b11, b12⟩ := okW_all hx
  have hu := okM_u hm
  rw [nSP_12]
  try simp only [clrV, clrL, clrS, clrB, clrC, clrA, clrAV, b1, b2, b3, b4, b5, b6, b7, b8, b9, b10, b11, b12, uB_load hu, tmod_load hu, tdiv_load hu (show (0 : Int) < 2 by decide), cfg_a1 hm, low32, w64_low, vers b9, uB_vers b9, nn (uB_load hu), nn b3, nn b8, nn b9, nn b11, nn b12, ge_iff_le, Bool.and_true, Bool.true_and, br_t]
  simp only [stepS, Int.reduceEq, ↓reduceIte, stepL, Int.reduceLE, and_self, and_true, and_false, Int.reduceAdd]
  cases h0 : (mCasB m 1 x.V) <;> simp only [h0, br_t, br_f, cond_true, cond_false, Bool.not_true, Bool.not_false, Bool.true_and, Bool.false_and, Bool.and_true, Bool.and_false] <;> first | rfl | (rw [eq_of_beq h0]; done) | (rw [eq_of_beq h0]; rfl)
theorem vSP_13 {m : Mm} {x : Wk} {t tw : TypeId} (hm : okM m = true) (hx : okW x = true) : sxFn (E45 (Ω := SV × SH)) (An A45 2) C45 [.ptr 0 0, .agg (I 13 :: encT x)] (objs LM t tw m) (KT 2) = some (.tup [.agg (encW (stepS m { x with line := 13 }).x), I (stepS m { x with line := 13 }).way, B (stepS m { x with line := 13 }).ok], objs LM t tw (stepS m { x with line := 13 }).m) := by
  obtain ⟨b1, b2, b3, b4, b5, b6, b7, b8, b9, b10, b11, b12⟩ := okW_all hx
  have hu := okM_u hm
  rw [nSP_13]
  try simp only [clrV, clrL, clrS, clrB, clrC, clrA, clrAV, b1, b2, b3, b4, b5, b6, b7, b8, b9, b10, b11, b12, uB_load hu, tmod_load hu, tdiv_load hu (show (0 : Int) < 2 by decide), cfg_a1 hm, low32, w64_low, vers b9, uB_vers b9, nn (uB_load hu), nn b3, nn b8, nn b9, nn b11, nn b12, ge_iff_le, Bool.and_true, Bool.true_and, br_t]
  simp only [stepS, Int.reduceEq, ↓reduceIte, stepL, Int.reduceLE, and_self, and_true, and_false, Int.reduceAdd]
  all_goals rfl
theorem vSP_14 {m : Mm} {x : Wk} {t tw : TypeId} (hm : okM m = true) (hx : okW x = true) : sxFn (E45 (Ω := SV × SH)) (An A45 2) C45 [.ptr 0 0, .agg (I 14 :: encT x)] (objs LM t tw m) (KT 2) = some (.tup [.agg (encW (stepS m { x with line := 14 }).x), I (stepS m { x with line := 14 }).way, B (stepS m { x with line := 14 }).ok], objs LM t tw (stepS m { x with line := 14 }).m) := by
  obtain ⟨b1, b2, b3, b4, b5, b6, b7, b8, b9, b10, b11, b12⟩ := okW_all hx
  have hu := okM_u hm
  rw [nSP_14]
  try simp only [clrV, clrL, clrS, clrB, clrC, clrA, clrAV, b1, b2, b3, b4, b5, b6, b7, b8, b9, b10, b11, b12, uB_load hu, tmod_load hu, tdiv_load hu (show (0 : Int) < 2 by decide), cfg_a1 hm, low32, w64_low, vers b9, uB_vers b9, nn (uB_load hu), nn b3, nn b8, nn b9, nn b11, nn b12, ge_iff_le, Bool.and_true, Bool.true_and, br_t]
  simp only [stepS, Int.reduceEq, ↓reduceIte, stepL, Int.reduceLE, and_self, and_true, and_false, Int.reduceAdd]
  all_goals rfl
theorem vSP_15 {m : Mm} {x : Wk} {t tw : TypeId} (hm : okM m = true) (hx : okW x = true) : sxFn (E45 (Ω := SV × SH)) (An A45 2) C45 [.ptr 0 0, .agg (I 15 :: encT x)] (objs LM t tw m) (KT 2) = some (.tup [.agg (encW (stepS m { x with line := 15 }).x), I (stepS m { x with line := 15 }).way, B (stepS m { x with line := 15 }).ok], objs LM t tw (stepS m { x with line := 15 }).m) := by
  obtain ⟨b1, b2, b3, b4, b5, b6, b7, b8, b9, b10, b11, b12⟩ := okW_all hx
  have hu := okM_u hm
  rw [nSP_15]
  try simp only [clrV, clrL, clrS, clrB, clrC, clrA, clrAV, b1, b2, b3, b4, b5, b6, b7, b8, b9, b10, b11, b12, uB_load hu, tmod_load hu, tdiv_load hu (show (0 : Int) < 2 by decide), cfg_a1 hm, low32, w64_low, vers b9, uB_vers b9, nn (uB_load hu), nn b3, nn b8, nn b9, nn b11, nn b12, ge_iff_le, Bool.and_true, Bool.true_and, br_t]
  simp only [stepS, Int.reduceEq, ↓reduceIte, stepL, Int.reduceLE, and_self, and_true, and_false, Int.reduceAdd]
  cases h0 : (mCasB m 1 x.V) <;> simp only [h0, br_t, br_f, cond_true, cond_false, Bool.not_true, Bool.not_false, Bool.true_and, Bool.false_and, Bool.and_true, Bool.and_false] <;> first | rfl | (rw [eq_of_beq h0]; done) | (rw [eq_of_beq h0]; rfl)
theorem vSP_20 {m : Mm} {x : Wk} {t tw : TypeId} (hm : okM m = true) (hx : okW x = true) : sxFn (E45 (Ω := SV × SH)) (An A45 2) C45 [.ptr 0 0, .agg (I 20 :: encT x)] (objs LM t tw m) (KT 2) = some (.tup [.agg (encW (stepS m { x with line := 20 }).x), I (stepS m { x with line := 20 }).way, B (stepS m { x with line := 20 }).ok], objs LM t tw (stepS m { x with line := 20 }).m) := by
  obtain ⟨b1, b2, b3, b4, b5, b6, b7, b8, b9, b10, b11, b12⟩ := okW_all hx
  have hu := okM_u hm
  rw [nSP_20]
  try simp only [clrV, clrL, clrS, clrB, clrC, clrA, clrAV, b1, b2, b3, b4, b5, b6, b7, b8, b9, b10, b11, b12, uB_load hu, tmod_load hu, tdiv_load hu (show (0 : Int) < 2 by decide), cfg_a1 hm, low32, w64_low, vers b9, uB_vers b9, nn (uB_load hu), nn b3, nn b8, nn b9, nn b11, nn b12, ge_iff_le, Bool.and_true, Bool.true_and, br_t]
  simp only [stepS, Int.reduceEq, ↓reduceIte, stepL, Int.reduceLE, and_self, and_true, and_false, Int.reduceAdd]
  cases h0 : (mLoadV m 2 % 4294967296 == 0) <;> simp only [h0, br_t, br_f, cond_true, cond_false, Bool.not_true, Bool.not_false, Bool.true_and, Bool.false_and, Bool.and_true, Bool.and_false] <;> first | rfl | (rw [eq_of_beq h0]; done) | (rw [eq_of_beq h0]; rfl)
theorem vSP_21 {m : Mm} {x : Wk} {t tw : TypeId} (hm : okM m = true) (hx : okW x = true) : sxFn (E45 (Ω := SV × SH)) (An A45 2) C45 [.ptr 0 0, .agg (I 21 :: encT x)] (objs LM t tw m) (KT 2) = some (.tup [.agg (encW (stepS m { x with line := 21 }).x), I (stepS m { x with line := 21 }).way, B (stepS m { x with line := 21 }).ok], objs LM t tw (stepS m { x with line := 21 }).m) := by
  obtain ⟨b1, b2, b3, b4, b5, b6, b7, b8, b9, b10, b11, b12⟩ := okW_all hx
  have hu := okM_u hm
  rw [nSP_21]
  try simp only [clrV, clrL, clrS, clrB, clrC, clrA, clrAV, b1, b2, b3, b4, b5, b6, b7, b8, b9, b10, b11, b12, uB_load hu, tmod_load hu, tdiv_load hu (show (0 : Int) < 2 by decide), cfg_a1 hm, low32, w64_low, vers b9, uB_vers b9, nn (uB_load hu), nn b3, nn b8, nn b9, nn b11, nn b12, ge_iff_le, Bool.and_true, Bool.true_and, br_t]
  simp only [stepS, Int.reduceEq, ↓reduceIte, stepL, Int.reduceLE, and_self, and_true, and_false, Int.reduceAdd]
  all_goals rfl
theorem vSP_22 {m : Mm} {x : Wk} {t tw : TypeId} (hm : okM m = true) (hx : okW x = true) : sxFn (E45 (Ω := SV × SH)) (An A45 2) C45 [.ptr 0 0, .agg (I 22 :: encT x)] (objs LM t tw m) (KT 2) = some (.tup [.agg (encW (stepS m { x with line := 22 }).x), I (stepS m { x with line := 22 }).way, B (stepS m { x with line := 22 }).ok], objs LM t tw (stepS m { x with line := 22 }).m) := by
  obtain ⟨b1, b2, b3, b4, b5, b6, b7, b8, b9, b10, b11, b12⟩ := okW_all hx
  have hu := okM_u hm
  rw [nSP_22]
  try simp only [clrV, clrL, clrS, clrB, clrC, clrA, clrAV, b1, b2, b3, b4, b5, b6, b7, b8, b9, b10, b11, b12, uB_load hu, tmod_load hu, tdiv_load hu (show (0 : Int) < 2 by decide), cfg_a1 hm, low32, w64_low, vers b9, uB_vers b9, nn (uB_load hu), nn b3, nn b8, nn b9, nn b11, nn b12, ge_iff_le, Bool.and_true, Bool.true_and, br_t]
  simp only [stepS, Int.reduceEq, ↓reduceIte, stepL, Int.reduceLE, and_self, and_true, and_false, Int.reduceAdd]
  cases h0 : (mCasB m 2 x.V) <;> simp only [h0, br_t, br_f, cond_true, cond_false, Bool.not_true, Bool.not_false, Bool.true_and, Bool.false_and, Bool.and_true, Bool.and_false] <;> first | rfl | (rw [eq_of_beq h0]; done) | (rw [eq_of_beq h0]; rfl)
theorem vSP_23 {m : Mm} {x : Wk} {t tw : TypeId} (hm : okM m = true) (hx : okW x = true) : sxFn (E45 (Ω := SV × SH)) (An A45 2) C45 [.ptr 0 0, .agg (I 23 :: encT x)] (objs LM t tw m) (KT 2) = some (.tup [.agg (encW (stepS m { x with line := 23 }).x), I (stepS m { x with line := 23 }).way, B (stepS m { x with line := 23 }).ok], objs LM t tw (stepS m { x with line := 23 }).m) := by
  obtain ⟨b1, b2, b3, b4, b5, b6, b7, b8, b9, b10, b11, b12⟩ := okW_all hx
  have hu := okM_u hm
  rw [nSP_23]
  try simp only [clrV, clrL, clrS, clrB, clrC, clrA, clrAV, b1, b2, b3, b4, b5, b6, b7, b8, b9, b10, b11, b12, uB_load hu, tmod_load hu, tdiv_load hu (show (0 : Int) < 2 by decide), cfg_a1 hm, low32, w64_low, vers b9, uB_vers b9, nn (uB_load hu), nn b3, nn b8, nn b9, nn b11, nn b12, ge_iff_le, Bool.and_true, Bool.true_and, br_t]
  simp only [stepS, Int.reduceEq, ↓reduceIte, stepL, Int.reduceLE, and_self, and_true, and_false, Int.reduceAdd]
  all_goals rfl
theorem vSP_24 {m : Mm} {x : Wk} {t tw : TypeId} (hm : okM m = true) (hx : okW x = true) : sxFn (E45 (Ω := SV × SH)) (An A45 2) C45 [.ptr 0 0, .agg (I 24 :: encT x)] (objs LM t tw m) (KT 2) = some (.tup [.agg (encW (stepS m { x with line := 24 }).x), I (stepS m { x with line := 24 }).way, B (stepS m { x with line := 24 }).ok], objs LM t tw (stepS m { x with line := 24 }).m) := by
  obtain ⟨b1, b2, b3, b4, b5, b6, b7, b8, b9, b10, b11, b12⟩ := okW_all hx
  have hu := okM_u hm
  rw [nSP_24]
  try simp only [clrV, clrL, clrS, clrB, clrC, clrA, clrAV, b1, b2, b3, b4, b5, b6, b7, b8, b9, b10, b11, b12, uB_load hu, tmod_load hu, tdiv_load hu (show (0 : Int) < 2 by decide), cfg_a1 hm, low32, w64_low, vers b9, uB_vers b9, nn (uB_load hu), nn b3, nn b8, nn b9, nn b11, nn b12, ge_iff_le, Bool.and_true, Bool.true_and, br_t]
  simp only [stepS, Int.reduceEq, ↓reduceIte, stepL, Int.reduceLE, and_self, and_true, and_false, Int.reduceAdd]
  all_goals rfl
theorem vSP_25 {m : Mm} {x : Wk} {t tw : TypeId} (hm : okM m = true) (hx : okW x = true) : sxFn (E45 (Ω := SV × SH)) (An A45 2) C45 [.ptr 0 0, .agg (I 25 :: encT x)] (objs LM t tw m) (KT 2) = some (.tup [.agg (encW (stepS m { x with line := 25 }).x), I (stepS m { x with line := 25 }).way, B (stepS m { x with line := 25 }).ok], objs LM t tw (stepS m { x with line := 25 }).m) := by
  obtain ⟨b1, b2, b3, b4, b5, b6, b7, b8, b9, b10, b11, b12⟩ := okW_all hx
  have hu := okM_u hm
  rw [nSP_25]
  try simp only [clrV, clrL, clrS, clrB, clrC, clrA, clrAV, b1, b2, b3, b4, b5, b6, b7, b8, b9, b10, b11, b12, uB_load hu, tmod_load hu, tdiv_load hu (show (0 : Int) < 2 by decide), cfg_a1 hm, low32, w64_low, vers b9, uB_vers b9, nn (uB_load hu), nn b3, nn b8, nn b9, nn b11, nn b12, ge_iff_le, Bool.and_true, Bool.true_and, br_t]
  simp only [stepS, Int.reduceEq, ↓reduceIte, stepL, Int.reduceLE, and_self, and_true, and_false, Int.reduceAdd]
  cases h0 : (mCasB m 2 x.V) <;> simp only [h0, br_t, br_f, cond_true, cond_false, Bool.not_true, Bool.not_false, Bool.true_and, Bool.false_and, Bool.and_true, Bool.and_false] <;> first | rfl | (rw [eq_of_beq h0]; done) | (rw [eq_of_beq h0]; rfl)
theorem vSP {m : Mm} {x : Wk} {t tw : TypeId} (hm : okM m = true) (hx : okW x = true) : sxFn (E45 (Ω := SV × SH)) (An A45 2) C45 [.ptr 0 0, .agg (encW x)] (objs LM t tw m) (KT 2) = some (.tup [.agg (encW (stepS m x).x), I (stepS m x).way, B (stepS m x).ok], objs LM t tw (stepS m x).m) := by
  have no : ∀ q : Int, x.line = q → OSP q → (x.line ≠ 10 ∧ x.line ≠ 11 ∧ x.line ≠ 12 ∧ x.line ≠ 13 ∧ x.line ≠ 14 ∧ x.line ≠ 15 ∧ x.line ≠ 20 ∧ x.line ≠ 21 ∧ x.line ≠ 22 ∧ x.line ≠ 23 ∧ x.line ≠ 24 ∧ x.line ≠ 25) → sxFn (E45 (Ω := SV × SH)) (An A45 2) C45 [.ptr 0 0, .agg (encW x)] (objs LM t tw m) (KT 2) = some (.tup [.agg (encW (stepS m x).x), I (stepS m x).way, B (stepS m x).ok], objs LM t tw (stepS m x).m) := fun q hq ho hn => by
    rw [mS_no hn]
    have := ho m x t tw
    rw [← hq] at this
    exact this
  have ye : ∀ q : Int, x.line = q → (sxFn (E45 (Ω := SV × SH)) (An A45 2) C45 [.ptr 0 0, .agg (I q :: encT x)] (objs LM t tw m) (KT 2) = some (.tup [.agg (encW (stepS m { x with line := q }).x), I (stepS m { x with line := q }).way, B (stepS m { x with line := q }).ok], objs LM t tw (stepS m { x with line := q }).m)) → sxFn (E45 (Ω := SV × SH)) (An A45 2) C45 [.ptr 0 0, .agg (encW x)] (objs LM t tw m) (KT 2) = some (.tup [.agg (encW (stepS m x).x), I (stepS m x).way, B (stepS m x).ok], objs LM t tw (stepS m x).m) := fun q hq h => by
    have e1 : { x with line := q } = x := by rw [← hq]
    have e : I q :: encT x = encW x := by simp only [encW]; rw [hq]
    rw [e1, e] at h
    exact h
  rcases hl : x.line with n | n
  · by_cases hn : 26 ≤ n
    · obtain ⟨k, rfl⟩ : ∃ k, n = k + 26 := ⟨n - 26, by omega⟩
      exact no _ hl (oSP_top k) (by rw [hl]; simp only [Int.ofNat_eq_natCast, ne_eq]; omega)
    · have : n < 26 := by omega
      match n, hl, this with
      | 0, hl, _ => exact no _ hl oSP_0 (by rw [hl]; simp only [Int.ofNat_eq_natCast, ne_eq]; omega)
      | 1, hl, _ => exact no _ hl oSP_1 (by rw [hl]; simp only [Int.ofNat_eq_natCast, ne_eq]; omega)
      | 2, hl, _ => exact no _ hl oSP_2 (by rw [hl]; simp only [Int.ofNat_eq_natCast, ne_eq]; omega)
      | 3, hl, _ => exact no _ hl oSP_3 (by rw [hl]; simp only [Int.ofNat_eq_natCast, ne_eq]; omega)
      | 4, hl, _ => exact no _ hl oSP_4 (by rw [hl]; simp only [Int.ofNat_eq_natCast, ne_eq]; omega)
      | 5, hl, _ => exact no _ hl oSP_5 (by rw [hl]; simp only [Int.ofNat_eq_natCast, ne_eq]; omega)
      | 6, hl, _ => exact no _ hl oSP_6 (by rw [hl]; simp only [Int.ofNat_eq_natCast, ne_eq]; omega)
      | 7, hl, _ => exact no _ hl oSP_7 (by rw [hl]; simp only [Int.ofNat_eq_natCast, ne_eq]; omega)
      | 8, hl, _ => exact no _ hl oSP_8 (by rw [hl]; simp only [Int.ofNat_eq_natCast, ne_eq]; omega)
      | 9, hl, _ => exact no _ hl oSP_9 (by rw [hl]; simp only [Int.ofNat_eq_natCast, ne_eq]; omega)
      | 10, hl, _ => exact ye 10 hl (vSP_10 hm hx)
      | 11, hl, _ => exact ye 11 hl (vSP_11 hm hx)
      | 12, hl, _ => exact ye 12 hl (vSP_12 hm hx)
      | 13, hl, _ => exact ye 13 hl (vSP_13 hm hx)
      | 14, hl, _ => exact ye 14 hl (vSP_14 hm hx)
      | 15, hl, _ => exact ye 15 hl (vSP_15 hm hx)
      | 16, hl, _ => exact no _ hl oSP_16 (by rw [hl]; simp only [Int.ofNat_eq_natCast, ne_eq]; omega)
      | 17, hl, _ => exact no _ hl oSP_17 (by rw [hl]; simp only [Int.ofNat_eq_natCast, ne_eq]; omega)
      | 18, hl, _ => exact no _ hl oSP_18 (by rw [hl]; simp only [Int.ofNat_eq_natCast, ne_eq]; omega)
      | 19, hl, _ => exact no _ hl oSP_19 (by rw [hl]; simp only [Int.ofNat_eq_natCast, ne_eq]; omega)
      | 20, hl, _ => exact ye 20 hl (vSP_20 hm hx)
      | 21, hl, _ => exact ye 21 hl (vSP_21 hm hx)
      | 22, hl, _ => exact ye 22 hl (vSP_22 hm hx)
      | 23, hl, _ => exact ye 23 hl (vSP_23 hm hx)
      | 24, hl, _ => exact ye 24 hl (vSP_24 hm hx)
      | 25, hl, _ => exact ye 25 hl (vSP_25 hm hx)
      | n + 26, _, h => exact absurd h (by omega)
  · exact no _ hl (oSP_neg n) (by rw [hl]; simp only [ne_eq]; omega)
def GS (m : Mm) (l : List SV) : Option (Bool × SV × Mm) := match l with
  | [.agg c] => bif isC ctsW c then some (okM m && okW (decW c), .tup [.agg (encW (stepS m (decW c)).x), I (stepS m (decW c)).way, B (stepS m (decW c)).ok], (stepS m (decW c)).m) else none
  | _ => none
def GSn (l : List SV) : Option SV := match l with
  | [.agg c] => bif isC ctsW c then some (.tup [.agg (encW (decW c)), I 0, B false]) else none
  | _ => none
theorem nS_nil (x : Wk) : sxFn (E45 (Ω := SV × SH)) (An A45 0) C45 [.d (.v (.pointer none)), .agg (encW x)] [] (KT 0) = some (.tup [.agg (encW x), I 0, B false], []) := by kernel_rfl
def S45m {Ω : Type} : Spec Ω := memSpec [none, some ctsW] (findM LM.own) [] (memF LM GS GSn)
theorem g45m : Good1 Try.prog 92 S45m := memFGood (A := A45) Try.func92 (by kernel_rfl) c45 e45 mix (L := LM) lay_M (fun m xs r m' t tw h => by
  unfold GS at h
  split at h
  · rename_i c
    obtain ⟨hc, h⟩ := cond_some h
    simp only [Option.some.injEq, Prod.mk.injEq, Bool.and_eq_true] at h
    obtain ⟨⟨hm, hx⟩, rfl, rfl⟩ := h
    rw [← enc_decW hc]
    rw [dec_encW]
    exact ⟨_, LeV.refl _, vSP hm hx⟩
  · cases h) (fun xs r h => by
  unfold GSn at h
  split at h
  · obtain ⟨hc, h⟩ := cond_some h
    simp only [Option.some.injEq] at h
    subst h
    rw [← enc_decW hc, dec_encW]
    exact nS_nil _
  · cases h)
end Go.Sx.Pr

namespace Go.Sx.Pr
open Go Go.Sx Go.Proofs
set_option maxRecDepth 100000
end Go.Sx.Pr

/- Ready and Home of both layers: what they answer. -/
namespace Go.Sx.Pr
open Go Go.Sx Go.Sx.Md Go.Proofs
set_option maxRecDepth 100000
section
variable (a b c d e f g l x : Int)
end
end Go.Sx.Pr

namespace Go.Sx.Pr
open Go Go.Sx Go.Proofs
set_option maxRecDepth 100000
end Go.Sx.Pr

/- The steps of one layer, program and document, against the pure model. -/
namespace Go.Sx.Pr
open Go Go.Sx Go.Sx.Md Go.Proofs
set_option maxRecDepth 100000
end Go.Sx.Pr

namespace Go.Sx.Pr
open Go Go.Sx Go.Proofs
set_option maxRecDepth 100000
end Go.Sx.Pr

/- Contract: equality of lists of numbers. -/
namespace Go.Sx.Pr
open Go Go.Sx Go.Proofs
set_option maxRecDepth 100000

/-! ### ref02.Ints -/
section
variable {Ω : Type} (it : Itr Ω) (IT : SS → Option Ω) (K : SV → SH → Option Ω) (xs ys : List Int) (i : Int)
end

end Go.Sx.Pr

namespace Go.Sx.Pr
open Go Go.Sx Go.Proofs
set_option maxRecDepth 100000
end Go.Sx.Pr

namespace Go.Sx.Pr
open Go Go.Sx Go.Proofs
set_option maxRecDepth 100000
end Go.Sx.Pr

/- A worker's states compared; too great a state: what the document's functions answer. -/
namespace Go.Sx.Pr
open Go Go.Sx Go.Sx.Md Go.Proofs
set_option maxRecDepth 100000
def lenW (x : Wk) : Bool := decide (x.rack.length < 1000000000) && (decide (x.hold.length < 1000000000) && (decide (x.read.length < 1000000000) && (decide (x.l0.length < 1000000000) && (decide (x.l1.length < 1000000000) && decide (x.l2.length < 1000000000)))))
theorem bif_nil {α : Type} {b : Bool} {l : List α} {r : SV × SH} {f : List α → Option (SV × SH)} (hf : f [] = none) (h : f (bif b then l else []) = some r) : b = true ∧ f l = some r := by
  cases b with
  | true => exact ⟨rfl, h⟩
  | false => rw [cond_false, hf] at h; cases h
end Go.Sx.Pr

/- Contracts with memory of functions that leave some of the locs as they are. -/
namespace Go.Sx

theorem locC_idx {ls : List Nat} {n l i : Nat} (h : idx l ls 0 = some i) : locC ls n i = l := by
  obtain ⟨_, h2, h3⟩ := idx_some h
  simp only [Nat.sub_zero] at h2 h3
  unfold locC
  rw [show Nat.blt i ls.length = true from Nat.ble_eq_true_of_le h2]
  exact h3

 mutual
theorem ren_unr {ls : List Nat} {n : Nat} : ∀ (x y : SV), unr ls x = some y → ren (locC ls n) y = x
  | .d x, y, e | .rp sz g o, y, e | .top, y, e => by simp only [unr, Option.some.injEq] at e; subst e; simp only [ren]
  | .ptr l o, y, e => by
      simp only [unr] at e; obtain ⟨i, h1, rfl⟩ := onI_some e; simp only [ren, locC_idx h1]
  | .pe l j o, y, e => by
      simp only [unr] at e; obtain ⟨i, h1, rfl⟩ := onI_some e; simp only [ren, locC_idx h1]
  | .own l, y, e => by
      simp only [unr] at e; obtain ⟨i, h1, rfl⟩ := onI_some e; simp only [ren, locC_idx h1]
  | .cs l o sz m c, y, e => by
      simp only [unr] at e; obtain ⟨i, h1, rfl⟩ := onI_some e; simp only [ren, locC_idx h1]
  | .mp l, y, e => by
      simp only [unr] at e; obtain ⟨i, h1, rfl⟩ := onI_some e; simp only [ren, locC_idx h1]
  | .fn g a b, y, e => by
      simp only [unr] at e
      split at e
      · rename_i a' b' ha hb
        simp only [Option.some.injEq] at e; subst e
        simp only [ren, renL_unr a a' ha, renL_unr b b' hb]
      · cases e
  | .agg c, y, e => by
      simp only [unr] at e
      split at e
      · rename_i c' hc
        simp only [Option.some.injEq] at e; subst e
        simp only [ren, renL_unr c c' hc]
      · cases e
  | .tup c, y, e => by
      simp only [unr] at e
      split at e
      · rename_i c' hc
        simp only [Option.some.injEq] at e; subst e
        simp only [ren, renL_unr c c' hc]
      · cases e
theorem renL_unr {ls : List Nat} {n : Nat} : ∀ (x y : List SV), unrL ls x = some y → renL (locC ls n) y = x
  | [], y, e => by simp only [unrL, Option.some.injEq] at e; subst e; simp only [renL]
  | x :: r, y, e => by
      simp only [unrL] at e
      split at e
      · rename_i y' s' h1 h2
        simp only [Option.some.injEq] at e; subst e
        simp only [renL, ren_unr x y' h1, renL_unr r s' h2]
      · cases e
end
theorem renO_unr {ls : List Nat} {n : Nat} {o o' : SO} (e : unrO ls o = some o') : renO (locC ls n) o' = o := by
  cases o with
  | cells t c =>
    simp only [unrO] at e
    split at e
    · rename_i c' hc
      simp only [Option.some.injEq] at e; subst e
      simp only [renO, renL_unr c c' hc]
    · cases e
  | maps es => cases e
  | dead => simp only [unrO, Option.some.injEq] at e; subst e; rfl
  | rowi t k xs => simp only [unrO, Option.some.injEq] at e; subst e; rfl
  | row t sz n f => simp only [unrO, Option.some.injEq] at e; subst e; rfl
  | mapi k es => simp only [unrO, Option.some.injEq] at e; subst e; rfl
  | mapb es => simp only [unrO, Option.some.injEq] at e; subst e; rfl

def altsW {Ω : Type} (ls wr sc : List Nat) (k : SV → List Nat → List Nat → SH → Option Ω) (h : SH) : List Alt → Option Ω
  | [] => none
  | (g, r, h1) :: rest => br g (bif Nat.ble ls.length h1.length then k (ren (locC ls h.length) r) wr sc (setLs h ls (renH (locC ls h.length) h1) ++ (renH (locC ls h.length) h1).drop ls.length) else none) (altsW ls wr sc k h rest)

/-- wr: the places of the locs that it may write. -/
def memSpecW (ts : List (Option (List CT))) (find : SH → List SV → Option (List Nat)) (wr : List Nat) (F : List SV → SH → List Alt) {Ω : Type} : Spec Ω := fun args h k =>
  match find h args with
  | none => none
  | some ls => match nrmA ls ts args, unrH ls h ls with
    | some a0, some h0 => bif okLs h.length ls then altsW ls (wr.map fun i => ls.getD i 0) [] k h (F a0 h0) else none
    | _, _ => none

theorem altsW_first {Ω : Type} {ls wr sc : List Nat} {k : SV → List Nat → List Nat → SH → Option Ω} {h : SH} {out : Ω} : ∀ {L : List Alt}, altsW ls wr sc k h L = some out → ∃ r h1, firstAlt L = some (r, h1) ∧ ls.length ≤ h1.length ∧ k (ren (locC ls h.length) r) wr sc (setLs h ls (renH (locC ls h.length) h1) ++ (renH (locC ls h.length) h1).drop ls.length) = some out
  | [], e => by cases e
  | (g, r, h1) :: rest, e => by
    cases g with
    | true =>
      simp only [altsW, br, cond_true] at e
      obtain ⟨e1, e2⟩ := cond_some e
      exact ⟨r, h1, rfl, Nat.le_of_ble_eq_true e1, e2⟩
    | false =>
      obtain ⟨r', hr', h1, h2⟩ := altsW_first (L := rest) e
      exact ⟨r', hr', h1, h2⟩

theorem altsW_of {Ω : Type} {ls wr sc : List Nat} {k : SV → List Nat → List Nat → SH → Option Ω} {h : SH} : ∀ {L : List Alt} {r : SV} {h1 : SH}, firstAlt L = some (r, h1) → ls.length ≤ h1.length → altsW ls wr sc k h L = k (ren (locC ls h.length) r) wr sc (setLs h ls (renH (locC ls h.length) h1) ++ (renH (locC ls h.length) h1).drop ls.length)
  | [], r, hr, e, _ => by cases e
  | (g, r', hr') :: rest, r, hr, e, hl => by
    cases g with
    | true =>
      simp only [firstAlt, cond_true, Option.some.injEq, Prod.mk.injEq] at e
      obtain ⟨rfl, rfl⟩ := e
      simp only [altsW, br, cond_true]
      rw [Nat.ble_eq_true_of_le hl]
      rfl
    | false => exact altsW_of (L := rest) e hl

theorem memW_par {ts : List (Option (List CT))} {find : SH → List SV → Option (List Nat)} {wr : List Nat} {F : List SV → SH → List Alt} {Ω Ω' : Type} : SpecPar (memSpecW ts find wr F (Ω := Ω)) (memSpecW ts find wr F (Ω := Ω')) := by
  intro args h k out hs
  unfold memSpecW at hs ⊢
  split at hs
  · cases hs
  · rename_i ls hls
    split at hs
    · rename_i a0 h0 ha hh
      obtain ⟨e1, hs⟩ := cond_some hs
      obtain ⟨r, h1, k1, k2, k3⟩ := altsW_first hs
      refine ⟨_, _, _, _, k3, fun k' => ?_⟩
      simp only [e1, cond_true]
      exact altsW_of k1 k2
    · cases hs

theorem aside_nil {ls : List Nat} : ∀ {h : SH} {i : Nat}, aside ls [] i h = true
  | [], _ => rfl
  | o :: r, i => by
    simp only [aside, Bool.and_eq_true, Bool.or_eq_true, Bool.not_eq_true']
    refine ⟨.inr ?_, aside_nil⟩
    have : (fun l => nmem l []) = fun _ => false := funext fun l => by simp [nmem]
    rw [this]; exact mentO_none o

theorem memGoodW {P : Program} {g : Nat} {fn : Func} (hf : P.funcs[g]? = some fn) (hname : (fn.name == "runtime.NumGoroutine") = false) {C : CF} (hC : coF P fn = some C) {A : Ann} {e : {Ω : Type} → Env Ω} (he : GoodE P e) (hmix : P.follows .mixedOrders = true)
    {ts : List (Option (List CT))} {find : SH → List SV → Option (List Nat)} {wr : List Nat} {F : List SV → SH → List Alt}
    (hrun : ∀ a0 h0 r h1, firstAlt (F a0 h0) = some (r, h1) → (∀ i, i < h0.length → nmem i wr = false → hget h1 i = hget h0 i) ∧ ∃ r0 hr0 H, LeV r0 r ∧ RowEq hr0 h1 ∧ trim h0.length r0 (List.range h0.length) H = hr0 ∧
      sxFn (e (Ω := SV × SH)) { A with n0 := h0.length, ap := [] } C a0 h0 (fun r h => some (r, h)) = some (r0, H)) :
    Good1 P g (fun {Ω} => memSpecW ts find wr F (Ω := Ω)) := by
  have hbody : ∃ c, fn.body = some c := by
    unfold coF at hC
    split at hC
    · rename_i c hb; exact ⟨c, hb⟩
    · cases hC
  obtain ⟨c, hb⟩ := hbody
  have henter : ∀ (args : Array Value) (w : World), (callFunc g args).run P w = .ok (.enter g args) w := fun args w => by
    have h1 : fn.name ≠ "runtime.NumGoroutine" := by simpa using hname
    simp [callFunc, hf, h1, hb]
  refine ⟨fun Ω => ⟨henter, fun args h k out hs => ?_⟩, fun Ω Ω' => memW_par⟩
  unfold memSpecW at hs
  split at hs
  · cases hs
  · rename_i ls hls
    split at hs
    · rename_i a0 h0 ha hh
      obtain ⟨hok, hs⟩ := cond_some hs
      obtain ⟨r, h1, k1, k2, k3⟩ := altsW_first hs
      obtain ⟨hkeep, r0, hr0, H, hle, heq, htr, hrun⟩ := hrun a0 h0 r h1 k1
      have hlen := (unrH_get hh).1
      refine ⟨_, _, _, _, k3, ⟨by simp only [List.length_append, setLs_length]; omega, fun l hl hlm => ?_⟩, fun cx w vals hg hargs => ?_⟩
      · rw [hget_app, setLs_length, if_pos hl, setLs_get hok rfl (by rw [renH_length]; exact k2)]
        cases hi : idx l ls 0 with
        | none => rfl
        | some i =>
          obtain ⟨_, h2, h3⟩ := idx_some hi
          simp only [Nat.sub_zero] at h2 h3
          simp only
          have hni : nmem i wr = false := by
            cases hb : nmem i wr with
            | false => rfl
            | true =>
              have := nmem_map (ls := ls) hb
              rw [h3, hlm] at this; cases this
          have h4 := (unrH_get hh).2 i h2
          rw [renH_get, hkeep i (by omega) hni, renO_unr h4, h3]
      · have hcalls := fn_calls (A := { A with n0 := h0.length, ap := [] }) (he.ok _) hmix hf hC hrun (cxM cx h ls) w vals (gamM hg hok hh) (nrmA_ok ha hargs)
        refine hcalls.mono fun e w' ⟨v, cxq, e1, grq, hrq, hGq⟩ => ?_
        obtain ⟨cxs, hG, hr, hgrow⟩ := trim_sound (n0 := h0.length) (m := List.range h0.length) hGq hrq
        have gr := hgrow (by simp only [cxM, hlen]; exact Nat.le_refl _) grq
        rw [htr] at hG
        have hG' := hG.rowEq heq
        obtain ⟨q1, q2⟩ := back_gam (ap := []) hg hok (fun i hi => by cases hi) aside_nil (fun i hi hni => by
          simp only [Ann.p, Ann.ok, hni, Bool.or_false]
          cases hb : Nat.ble h0.length i with
          | false => rfl
          | true => have := Nat.le_of_ble_eq_true hb; omega) gr hG' k2
        exact ⟨v, _, e1, q1, SRep.ren (rnR hok (by have := hG'.n; omega)) _ _ (LeV.rep _ _ _ hle hr), q2⟩
    · cases hs
end Go.Sx

/- All: a copy of a memory's words. -/
namespace Go.Sx.Pr
open Go Go.Sx Go.Sx.Md Go.Proofs
set_option maxRecDepth 100000
theorem n33 {m : Mm} {t tw : TypeId} : sxFn (E33 (Ω := SV × SH)) (An A33 2) C33 [.ptr 0 0] (objs LM t tw m) (KT 2) = br (fits m.ws.length 8) (some (.own 2, [.cells t (LM.enc m), .rowi tw .u64 m.ws, .rowi 24 .u64 m.ws])) none := by kernel_rfl
def F33 : List SV → SH → List Alt := fun a0 h0 => match a0, h0 with
  | [.ptr 0 0], [.cells t c, .rowi tw .u64 ws] => bif isM c then [(fits ws.length 8, .own 2, [.cells t c, .rowi tw .u64 ws, .rowi 24 .u64 ws])] else []
  | _, _ => []
def S33c {Ω : Type} : Spec Ω := memSpecW [none] (findM 13) [] F33
theorem g33c : Good1 Try.prog 17 S33c := memGoodW (A := A33) Try.func17 (by kernel_rfl) c33 e33 mix fun a0 h0 r h1 hF => by
  unfold F33 at hF
  split at hF
  · rename_i t c tw ws
    obtain ⟨hc, hF⟩ := bif_nil rfl hF
    cases hl : fits ws.length 8 with
    | false => rw [hl] at hF; cases hF
    | true =>
      rw [hl] at hF
      simp only [firstAlt, cond_true, Option.some.injEq, Prod.mk.injEq] at hF
      obtain ⟨rfl, rfl⟩ := hF
      obtain ⟨e1, e2⟩ := lay_M c ws hc
      have hv := n33 (m := LM.dec c ws) (t := t) (tw := tw)
      rw [show objs LM t tw (LM.dec c ws) = [.cells t c, .rowi tw .u64 ws] by simp only [objs, e1, e2], e1, e2, hl, br_t] at hv
      obtain ⟨H, q3, q4⟩ := kt_of e33 hv
      refine ⟨fun i hi _ => ?_, _, _, H, LeV.refl _, RowEq.refl _, q3, q4⟩
      match i, hi with
      | 0, _ => rfl
      | 1, _ => rfl
      | i + 2, hi => exact absurd hi (by simp only [List.length_cons, List.length_nil]; omega)
  · cases hF
end Go.Sx.Pr

/- Contracts whose answer is a new row that nobody writes any more: data. -/
namespace Go.Sx

def firstD : List (Bool × Nat × Nat × (Nat → Nat → Value)) → Option (Nat × Nat × (Nat → Nat → Value))
  | [] => none
  | (g, x) :: rest => bif g then some x else firstD rest

end Go.Sx

/- All's list as data. -/
namespace Go.Sx.Pr
open Go Go.Sx Go.Sx.Md Go.Proofs
set_option maxRecDepth 100000
end Go.Sx.Pr

namespace Go.Sx.Pr
open Go Go.Sx Go.Proofs
set_option maxRecDepth 100000
def K18_1 : CC := .seq (.block 0 (.seq (.reg false [⟨some 14, .mv (.t 7), none, 0⟩,
     ⟨some 15, .eq .int true (.t 14) (.c (.d (.v (.int .i64 0)))), none, 0⟩,
     ⟨some 13, .mv (.t 15), none, 0⟩])
   (.cond 13 (.seq (.reg false [⟨some 16, .mv (.t 7), none, 0⟩,
       ⟨some 4, .mv (.c (.d (.v (.pointer none)))), none, 0⟩,
       ⟨some 5, .mv (.t 16), none, 0⟩])
     (.ret))
     (.seq (.reg false [⟨some 18, .mv (.t 1), none, 0⟩,
       ⟨some 19, .len (.t 18), none, 0⟩,
       ⟨some 20, .ld 8 true (.t 6), none, 0⟩,
       ⟨some 21, .call (.c (.fn (.func 86) [] [])) [.t 20], none, 0⟩,
       ⟨some 22, .eq .int true (.t 19) (.t 21), none, 0⟩,
       ⟨some 17, .mv (.t 22), none, 0⟩])
     (.cond 17 (.seq (.reg false [⟨some 4, .mv (.c (.d (.v (.pointer none)))), none, 0⟩,
         ⟨some 5, .mv (.c (.d (.v (.int .i64 3)))), none, 0⟩])
       (.ret))
       (.skip))))))
 (.seq (.reg true [⟨some 23, .ld 8 true (.t 6), none, 0⟩,
   ⟨some 24, .mv (.t 1), none, 0⟩,
   ⟨some 25, .call (.c (.fn (.func 63) [] [])) [.t 24], none, 2⟩,
   ⟨some 26, .bld [.d (.v (.int .i64 0)), .d (.v (.int .i64 0)), .d (.v (.int .i64 0)), .d (.v (.int .i64 0)), .d (.v (.int .i64 0)), .d (.v (.int .i64 0)), .d (.v (.int .i64 0)), .d (.v (.int .u64 0)), .d (.v (.int .i64 0)), .d (.v (.int .i64 0)), .d (.v (.int .u64 0)), .d (.v (.int .u64 0)), .d (.v (.int .u64 0)), .d (.v (.slice none 0 0))] [(0, 8, .t 23), (13, 1, .t 25)], none, 7⟩,
   ⟨some 27, .box 79 14 (.t 26), none, 15⟩,
   ⟨some 4, .mv (.t 27), none, 31⟩,
   ⟨some 5, .mv (.c (.d (.v (.int .i64 0)))), none, 63⟩])
 (.ret))
def K18_2 : CC := .reg false [⟨some 9, .ld 8 true (.t 2), none, 0⟩,
   ⟨some 10, .call (.c (.fn (.func 85) [] [])) [.t 9], none, 0⟩,
   ⟨some 8, .mv (.t 10), none, 0⟩,
   ⟨some 11, .ext 0 (.t 8), none, 0⟩,
   ⟨some 12, .ext 1 (.t 8), none, 0⟩,
   ⟨some 6, .newc 75 [.d (.v (.int .i64 0)), .d (.v (.int .i64 0)), .d (.v (.int .i64 0)), .d (.v (.int .i64 0)), .d (.v (.int .i64 0)), .d (.v (.int .i64 0)), .d (.v (.int .i64 0)), .d (.v (.int .u64 0))], none, 0⟩,
   ⟨none, .st 8 (.t 6) (.t 11), none, 0⟩,
   ⟨some 7, .mv (.t 12), none, 0⟩]
def K18_3 : CC := .reg false [⟨some 2, .box 26 8 (.t 0), none, 0⟩,
   ⟨some 4, .mv (.c (.d (.v (.pointer none)))), none, 0⟩,
   ⟨some 5, .mv (.c (.d (.v (.int .i64 0)))), none, 0⟩]
/-- coatcheck/memory.From -/
def C18 : CF := ⟨2, [(4, none), (5, none)],
 .seq K18_3 (.seq K18_2 K18_1)⟩
theorem c18 : coF Try.prog Try.f49 = some C18 := by kernel_rfl
def A18 : Ann := { keep := [0, 1, 2, 4, 5, 6, 7, 13, 17], live := [] }
def E18 {Ω : Type} : Env Ω := econs 63 S65 (econs 85 S63 (econs 86 S64 (enil)))
theorem e18 : GoodE Try.prog E18 := GoodE.cons g65 (GoodE.cons g63 (GoodE.cons g64 (GoodE.nil)))
def S18 {Ω : Type} : Spec Ω := inl E18 A18 C18 false
theorem g18 : Good1 Try.prog 49 S18 := Good1.inl e18 mix Try.func49 (by kernel_rfl) c18 A18 false
/-- coatcheck/memory.New -/
def C34 : CF := ⟨1, [(2, none), (3, none)],
 .seq (.reg false [⟨some 1, .box 26 8 (.t 0), none, 0⟩,
   ⟨some 2, .mv (.c (.d (.v (.pointer none)))), none, 0⟩,
   ⟨some 3, .mv (.c (.d (.v (.int .i64 0)))), none, 0⟩])
 (.seq (.reg true [⟨some 4, .ld 8 true (.t 1), none, 0⟩,
   ⟨some 5, .ld 8 true (.t 1), none, 0⟩,
   ⟨some 6, .call (.c (.fn (.func 50) [] [])) [.t 5], none, 2⟩,
   ⟨some 7, .call (.c (.fn (.func 49) [] [])) [.t 4, .t 6], none, 7⟩,
   ⟨some 8, .ext 0 (.t 7), none, 15⟩,
   ⟨some 9, .ext 1 (.t 7), none, 15⟩,
   ⟨some 2, .mv (.t 8), none, 63⟩,
   ⟨some 3, .mv (.t 9), none, 127⟩])
 (.ret))⟩
theorem c34 : coF Try.prog Try.f12 = some C34 := by kernel_rfl
def A34 : Ann := { keep := [0, 1, 2, 3], live := [] }
def E34 {Ω : Type} : Env Ω := econs 49 S18 (econs 50 S68 (enil))
theorem e34 : GoodE Try.prog E34 := GoodE.cons g18 (GoodE.cons g68 (GoodE.nil))
def S34 {Ω : Type} : Spec Ω := inl E34 A34 C34 false
theorem g34 : Good1 Try.prog 12 S34 := Good1.inl e34 mix Try.func12 (by kernel_rfl) c34 A34 false
end Go.Sx.Pr

/- Memory objects with their row's loc. -/
namespace Go.Sx.Pr
open Go Go.Sx Go.Sx.Md
def memC (c : Cf) (s : Ac) (o : Nat) : List SV := [I c.a, I c.b, I c.c, I c.d, I c.e, I c.f, I c.g, U c.l, I s.k, I s.a, U s.x, U s.y, U s.o, .own o]
end Go.Sx.Pr
