/- The steps of one layer, program and document, against the pure model. -/
import Derived.Test.YtpnnnklahanecaaR10
import Derived.Test.YtpnnnklahanecaaRows
import Derived.KernelRfl
import Derived.Test.YtpnnnklahanecaaSxArg2
import Derived.Test.YtpnnnklahanecaaR2
import Derived.Test.YtpnnnklahanecaaN2
set_option linter.all false
set_option linter.unusedVariables false
set_option linter.unusedSimpArgs false
set_option linter.unnecessarySimpa false
namespace Go.Sx.Pr
open Go Go.Sx Go.Sx.Md Go.Proofs
set_option maxRecDepth 100000
theorem nSP_any (m : Mm) (x : Wk) (t tw : Nat) (q : Int) :
    sxFn (E45 (Ω := SV × SH)) (An A45 2) C45 [.ptr 0 0, .agg (I q :: encT x)] (objs LM t tw m) (KT 2) =
    br (decide (q < 10)) (some (.tup [.agg (encW { x with line := q }), I 0, B false], (objs LM t tw m))) (br (decide (q > 25)) (some (.tup [.agg (encW { x with line := q }), I 0, B false], (objs LM t tw m))) (br (decide (q > 15)) (br (decide (q < 20)) (some (.tup [.agg (encW { x with line := q }), I 0, B false], (objs LM t tw m))) (br (decide (q < 20)) (br (w64' (q - IntKind.wrap .i64 (w64' (Int.tdiv q 10) * 10)) == 0) (br (wU (IntKind.wrap .u32 (mLoadV (mClear (m)) 1)) == 0) (some (.tup [.agg (encW { x with line := 0, H := wU (IntKind.wrap .u32 (mLoadV (mClear (m)) 1)), V := mLoadV (mClear (m)) 1 }), I 2, B true], (objs LM t tw (mLoad (mClear (m)) 1)))) (some (.tup [.agg (encW { x with line := IntKind.wrap .i64 (q + 1), H := wU (IntKind.wrap .u32 (mLoadV (mClear (m)) 1)), V := mLoadV (mClear (m)) 1 }), I 0, B true], (objs LM t tw (mLoad (mClear (m)) 1))))) (br (w64' (q - IntKind.wrap .i64 (w64' (Int.tdiv q 10) * 10)) == 1) (some (.tup [.agg (encW { x with line := IntKind.wrap .i64 (q + 1), N := mLoadV (mClear (m)) (adr (Mm.c m) 5 (w64' (w64' (Wk.H x) - 1))) }), I 0, B true], (objs LM t tw (mLoad (mClear (m)) (adr (Mm.c m) 5 (w64' (w64' (Wk.H x) - 1))))))) (br (w64' (q - IntKind.wrap .i64 (w64' (Int.tdiv q 10) * 10)) == 2) (br (uB (Wk.V x)) (br (uB (wU (Wk.V x / 4294967296 + 1))) (br (mCasB (mClear (m)) 1 (Wk.V x)) (some (.tup [.agg (encW { x with line := 0 }), I 1, B true], (objs LM t tw (mCas (mClear (m)) 1 (Wk.V x) (pHead (w64' (w64' (wU (IntKind.wrap .u32 (Wk.N x))) - 1)) (wU (Wk.V x / 4294967296 + 1))))))) (some (.tup [.agg (encW { x with line := IntKind.wrap .i64 (w64' (Int.tdiv q 10) * 10) }), I 0, B true], (objs LM t tw (mCas (mClear (m)) 1 (Wk.V x) (pHead (w64' (w64' (wU (IntKind.wrap .u32 (Wk.N x))) - 1)) (wU (Wk.V x / 4294967296 + 1)))))))) none) none) (br (w64' (q - IntKind.wrap .i64 (w64' (Int.tdiv q 10) * 10)) == 3) (some (.tup [.agg (encW { x with line := IntKind.wrap .i64 (q + 1), V := mLoadV (mClear (m)) 1 }), I 0, B true], (objs LM t tw (mLoad (mClear (m)) 1)))) (br (w64' (q - IntKind.wrap .i64 (w64' (Int.tdiv q 10) * 10)) == 4) (some (.tup [.agg (encW { x with line := IntKind.wrap .i64 (q + 1) }), I 0, B true], (objs LM t tw (mStore (mClear (m)) (adr (Mm.c m) 5 (w64' (Wk.K x - 1))) (wU (IntKind.wrap .u32 (Wk.V x))))))) (br (w64' (q - IntKind.wrap .i64 (w64' (Int.tdiv q 10) * 10)) == 5) (br (uB (Wk.V x)) (br (uB (wU (Wk.V x / 4294967296 + 1))) (br (mCasB (mClear (m)) 1 (Wk.V x)) (some (.tup [.agg (encW { x with line := 0 }), I 1, B true], (objs LM t tw (mCas (mClear (m)) 1 (Wk.V x) (pHead (w64' (Wk.K x - 1)) (wU (Wk.V x / 4294967296 + 1))))))) (some (.tup [.agg (encW { x with line := IntKind.wrap .i64 (w64' (w64' (Int.tdiv q 10) * 10) + 3) }), I 0, B true], (objs LM t tw (mCas (mClear (m)) 1 (Wk.V x) (pHead (w64' (Wk.K x - 1)) (wU (Wk.V x / 4294967296 + 1)))))))) none) none) (some (.tup [.agg (encW { x with line := q }), I 0, B true], (objs LM t tw (mClear (m))))))))))) (br (w64' (q - IntKind.wrap .i64 (w64' (Int.tdiv q 10) * 10)) == 0) (br (wU (IntKind.wrap .u32 (mLoadV (mClear (m)) 2)) == 0) (some (.tup [.agg (encW { x with line := 0, H := wU (IntKind.wrap .u32 (mLoadV (mClear (m)) 2)), V := mLoadV (mClear (m)) 2 }), I 2, B true], (objs LM t tw (mLoad (mClear (m)) 2)))) (some (.tup [.agg (encW { x with line := IntKind.wrap .i64 (q + 1), H := wU (IntKind.wrap .u32 (mLoadV (mClear (m)) 2)), V := mLoadV (mClear (m)) 2 }), I 0, B true], (objs LM t tw (mLoad (mClear (m)) 2))))) (br (w64' (q - IntKind.wrap .i64 (w64' (Int.tdiv q 10) * 10)) == 1) (some (.tup [.agg (encW { x with line := IntKind.wrap .i64 (q + 1), N := mLoadV (mClear (m)) (adr (Mm.c m) 4 (w64' (w64' (Wk.H x) - 1))) }), I 0, B true], (objs LM t tw (mLoad (mClear (m)) (adr (Mm.c m) 4 (w64' (w64' (Wk.H x) - 1))))))) (br (w64' (q - IntKind.wrap .i64 (w64' (Int.tdiv q 10) * 10)) == 2) (br (uB (Wk.V x)) (br (uB (wU (Wk.V x / 4294967296 + 1))) (br (mCasB (mClear (m)) 2 (Wk.V x)) (some (.tup [.agg (encW { x with line := 0 }), I 1, B true], (objs LM t tw (mCas (mClear (m)) 2 (Wk.V x) (pHead (w64' (w64' (wU (IntKind.wrap .u32 (Wk.N x))) - 1)) (wU (Wk.V x / 4294967296 + 1))))))) (some (.tup [.agg (encW { x with line := IntKind.wrap .i64 (w64' (Int.tdiv q 10) * 10) }), I 0, B true], (objs LM t tw (mCas (mClear (m)) 2 (Wk.V x) (pHead (w64' (w64' (wU (IntKind.wrap .u32 (Wk.N x))) - 1)) (wU (Wk.V x / 4294967296 + 1)))))))) none) none) (br (w64' (q - IntKind.wrap .i64 (w64' (Int.tdiv q 10) * 10)) == 3) (some (.tup [.agg (encW { x with line := IntKind.wrap .i64 (q + 1), V := mLoadV (mClear (m)) 2 }), I 0, B true], (objs LM t tw (mLoad (mClear (m)) 2)))) (br (w64' (q - IntKind.wrap .i64 (w64' (Int.tdiv q 10) * 10)) == 4) (some (.tup [.agg (encW { x with line := IntKind.wrap .i64 (q + 1) }), I 0, B true], (objs LM t tw (mStore (mClear (m)) (adr (Mm.c m) 4 (w64' (Wk.I x - 1))) (wU (IntKind.wrap .u32 (Wk.V x))))))) (br (w64' (q - IntKind.wrap .i64 (w64' (Int.tdiv q 10) * 10)) == 5) (br (uB (Wk.V x)) (br (uB (wU (Wk.V x / 4294967296 + 1))) (br (mCasB (mClear (m)) 2 (Wk.V x)) (some (.tup [.agg (encW { x with line := 0 }), I 1, B true], (objs LM t tw (mCas (mClear (m)) 2 (Wk.V x) (pHead (w64' (Wk.I x - 1)) (wU (Wk.V x / 4294967296 + 1))))))) (some (.tup [.agg (encW { x with line := IntKind.wrap .i64 (w64' (w64' (Int.tdiv q 10) * 10) + 3) }), I 0, B true], (objs LM t tw (mCas (mClear (m)) 2 (Wk.V x) (pHead (w64' (Wk.I x - 1)) (wU (Wk.V x / 4294967296 + 1)))))))) none) none) (some (.tup [.agg (encW { x with line := q }), I 0, B true], (objs LM t tw (mClear (m))))))))))))) (br (decide (q < 20)) (br (w64' (q - IntKind.wrap .i64 (w64' (Int.tdiv q 10) * 10)) == 0) (br (wU (IntKind.wrap .u32 (mLoadV (mClear (m)) 1)) == 0) (some (.tup [.agg (encW { x with line := 0, H := wU (IntKind.wrap .u32 (mLoadV (mClear (m)) 1)), V := mLoadV (mClear (m)) 1 }), I 2, B true], (objs LM t tw (mLoad (mClear (m)) 1)))) (some (.tup [.agg (encW { x with line := IntKind.wrap .i64 (q + 1), H := wU (IntKind.wrap .u32 (mLoadV (mClear (m)) 1)), V := mLoadV (mClear (m)) 1 }), I 0, B true], (objs LM t tw (mLoad (mClear (m)) 1))))) (br (w64' (q - IntKind.wrap .i64 (w64' (Int.tdiv q 10) * 10)) == 1) (some (.tup [.agg (encW { x with line := IntKind.wrap .i64 (q + 1), N := mLoadV (mClear (m)) (adr (Mm.c m) 5 (w64' (w64' (Wk.H x) - 1))) }), I 0, B true], (objs LM t tw (mLoad (mClear (m)) (adr (Mm.c m) 5 (w64' (w64' (Wk.H x) - 1))))))) (br (w64' (q - IntKind.wrap .i64 (w64' (Int.tdiv q 10) * 10)) == 2) (br (uB (Wk.V x)) (br (uB (wU (Wk.V x / 4294967296 + 1))) (br (mCasB (mClear (m)) 1 (Wk.V x)) (some (.tup [.agg (encW { x with line := 0 }), I 1, B true], (objs LM t tw (mCas (mClear (m)) 1 (Wk.V x) (pHead (w64' (w64' (wU (IntKind.wrap .u32 (Wk.N x))) - 1)) (wU (Wk.V x / 4294967296 + 1))))))) (some (.tup [.agg (encW { x with line := IntKind.wrap .i64 (w64' (Int.tdiv q 10) * 10) }), I 0, B true], (objs LM t tw (mCas (mClear (m)) 1 (Wk.V x) (pHead (w64' (w64' (wU (IntKind.wrap .u32 (Wk.N x))) - 1)) (wU (Wk.V x / 4294967296 + 1)))))))) none) none) (br (w64' (q - IntKind.wrap .i64 (w64' (Int.tdiv q 10) * 10)) == 3) (some (.tup [.agg (encW { x with line := IntKind.wrap .i64 (q + 1), V := mLoadV (mClear (m)) 1 }), I 0, B true], (objs LM t tw (mLoad (mClear (m)) 1)))) (br (w64' (q - IntKind.wrap .i64 (w64' (Int.tdiv q 10) * 10)) == 4) (some (.tup [.agg (encW { x with line := IntKind.wrap .i64 (q + 1) }), I 0, B true], (objs LM t tw (mStore (mClear (m)) (adr (Mm.c m) 5 (w64' (Wk.K x - 1))) (wU (IntKind.wrap .u32 (Wk.V x))))))) (br (w64' (q - IntKind.wrap .i64 (w64' (Int.tdiv q 10) * 10)) == 5) (br (uB (Wk.V x)) (br (uB (wU (Wk.V x / 4294967296 + 1))) (br (mCasB (mClear (m)) 1 (Wk.V x)) (some (.tup [.agg (encW { x with line := 0 }), I 1, B true], (objs LM t tw (mCas (mClear (m)) 1 (Wk.V x) (pHead (w64' (Wk.K x - 1)) (wU (Wk.V x / 4294967296 + 1))))))) (some (.tup [.agg (encW { x with line := IntKind.wrap .i64 (w64' (w64' (Int.tdiv q 10) * 10) + 3) }), I 0, B true], (objs LM t tw (mCas (mClear (m)) 1 (Wk.V x) (pHead (w64' (Wk.K x - 1)) (wU (Wk.V x / 4294967296 + 1)))))))) none) none) (some (.tup [.agg (encW { x with line := q }), I 0, B true], (objs LM t tw (mClear (m))))))))))) (br (w64' (q - IntKind.wrap .i64 (w64' (Int.tdiv q 10) * 10)) == 0) (br (wU (IntKind.wrap .u32 (mLoadV (mClear (m)) 2)) == 0) (some (.tup [.agg (encW { x with line := 0, H := wU (IntKind.wrap .u32 (mLoadV (mClear (m)) 2)), V := mLoadV (mClear (m)) 2 }), I 2, B true], (objs LM t tw (mLoad (mClear (m)) 2)))) (some (.tup [.agg (encW { x with line := IntKind.wrap .i64 (q + 1), H := wU (IntKind.wrap .u32 (mLoadV (mClear (m)) 2)), V := mLoadV (mClear (m)) 2 }), I 0, B true], (objs LM t tw (mLoad (mClear (m)) 2))))) (br (w64' (q - IntKind.wrap .i64 (w64' (Int.tdiv q 10) * 10)) == 1) (some (.tup [.agg (encW { x with line := IntKind.wrap .i64 (q + 1), N := mLoadV (mClear (m)) (adr (Mm.c m) 4 (w64' (w64' (Wk.H x) - 1))) }), I 0, B true], (objs LM t tw (mLoad (mClear (m)) (adr (Mm.c m) 4 (w64' (w64' (Wk.H x) - 1))))))) (br (w64' (q - IntKind.wrap .i64 (w64' (Int.tdiv q 10) * 10)) == 2) (br (uB (Wk.V x)) (br (uB (wU (Wk.V x / 4294967296 + 1))) (br (mCasB (mClear (m)) 2 (Wk.V x)) (some (.tup [.agg (encW { x with line := 0 }), I 1, B true], (objs LM t tw (mCas (mClear (m)) 2 (Wk.V x) (pHead (w64' (w64' (wU (IntKind.wrap .u32 (Wk.N x))) - 1)) (wU (Wk.V x / 4294967296 + 1))))))) (some (.tup [.agg (encW { x with line := IntKind.wrap .i64 (w64' (Int.tdiv q 10) * 10) }), I 0, B true], (objs LM t tw (mCas (mClear (m)) 2 (Wk.V x) (pHead (w64' (w64' (wU (IntKind.wrap .u32 (Wk.N x))) - 1)) (wU (Wk.V x / 4294967296 + 1)))))))) none) none) (br (w64' (q - IntKind.wrap .i64 (w64' (Int.tdiv q 10) * 10)) == 3) (some (.tup [.agg (encW { x with line := IntKind.wrap .i64 (q + 1), V := mLoadV (mClear (m)) 2 }), I 0, B true], (objs LM t tw (mLoad (mClear (m)) 2)))) (br (w64' (q - IntKind.wrap .i64 (w64' (Int.tdiv q 10) * 10)) == 4) (some (.tup [.agg (encW { x with line := IntKind.wrap .i64 (q + 1) }), I 0, B true], (objs LM t tw (mStore (mClear (m)) (adr (Mm.c m) 4 (w64' (Wk.I x - 1))) (wU (IntKind.wrap .u32 (Wk.V x))))))) (br (w64' (q - IntKind.wrap .i64 (w64' (Int.tdiv q 10) * 10)) == 5) (br (uB (Wk.V x)) (br (uB (wU (Wk.V x / 4294967296 + 1))) (br (mCasB (mClear (m)) 2 (Wk.V x)) (some (.tup [.agg (encW { x with line := 0 }), I 1, B true], (objs LM t tw (mCas (mClear (m)) 2 (Wk.V x) (pHead (w64' (Wk.I x - 1)) (wU (Wk.V x / 4294967296 + 1))))))) (some (.tup [.agg (encW { x with line := IntKind.wrap .i64 (w64' (w64' (Int.tdiv q 10) * 10) + 3) }), I 0, B true], (objs LM t tw (mCas (mClear (m)) 2 (Wk.V x) (pHead (w64' (Wk.I x - 1)) (wU (Wk.V x / 4294967296 + 1)))))))) none) none) (some (.tup [.agg (encW { x with line := q }), I 0, B true], (objs LM t tw (mClear (m)))))))))))))) := by kernel_rfl
theorem nSP_10 (m : Mm) (x : Wk) (t tw : Nat) :
    sxFn (E45 (Ω := SV × SH)) (An A45 2) C45 [.ptr 0 0, .agg (I 10 :: encT x)] (objs LM t tw m) (KT 2) =
    br (wU (IntKind.wrap .u32 (mLoadV (mClear (m)) 1)) == 0) (some (.tup [.agg (encW { x with line := 0, H := wU (IntKind.wrap .u32 (mLoadV (mClear (m)) 1)), V := mLoadV (mClear (m)) 1 }), I 2, B true], (objs LM t tw (mLoad (mClear (m)) 1)))) (some (.tup [.agg (encW { x with line := 11, H := wU (IntKind.wrap .u32 (mLoadV (mClear (m)) 1)), V := mLoadV (mClear (m)) 1 }), I 0, B true], (objs LM t tw (mLoad (mClear (m)) 1)))) := by kernel_rfl
theorem nSP_14 (m : Mm) (x : Wk) (t tw : Nat) :
    sxFn (E45 (Ω := SV × SH)) (An A45 2) C45 [.ptr 0 0, .agg (I 14 :: encT x)] (objs LM t tw m) (KT 2) =
    some (.tup [.agg (encW { x with line := 15 }), I 0, B true], (objs LM t tw (mStore (mClear (m)) (adr (Mm.c m) 5 (w64' (Wk.K x - 1))) (wU (IntKind.wrap .u32 (Wk.V x)))))) := by kernel_rfl
theorem nSP_22 (m : Mm) (x : Wk) (t tw : Nat) :
    sxFn (E45 (Ω := SV × SH)) (An A45 2) C45 [.ptr 0 0, .agg (I 22 :: encT x)] (objs LM t tw m) (KT 2) =
    br (uB (Wk.V x)) (br (uB (wU (Wk.V x / 4294967296 + 1))) (br (mCasB (mClear (m)) 2 (Wk.V x)) (some (.tup [.agg (encW { x with line := 0 }), I 1, B true], (objs LM t tw (mCas (mClear (m)) 2 (Wk.V x) (pHead (w64' (w64' (wU (IntKind.wrap .u32 (Wk.N x))) - 1)) (wU (Wk.V x / 4294967296 + 1))))))) (some (.tup [.agg (encW { x with line := 20 }), I 0, B true], (objs LM t tw (mCas (mClear (m)) 2 (Wk.V x) (pHead (w64' (w64' (wU (IntKind.wrap .u32 (Wk.N x))) - 1)) (wU (Wk.V x / 4294967296 + 1)))))))) none) none := by kernel_rfl
theorem nSP_11 (m : Mm) (x : Wk) (t tw : Nat) :
    sxFn (E45 (Ω := SV × SH)) (An A45 2) C45 [.ptr 0 0, .agg (I 11 :: encT x)] (objs LM t tw m) (KT 2) =
    some (.tup [.agg (encW { x with line := 12, N := mLoadV (mClear (m)) (adr (Mm.c m) 5 (w64' (w64' (Wk.H x) - 1))) }), I 0, B true], (objs LM t tw (mLoad (mClear (m)) (adr (Mm.c m) 5 (w64' (w64' (Wk.H x) - 1)))))) := by kernel_rfl
theorem nSP_15 (m : Mm) (x : Wk) (t tw : Nat) :
    sxFn (E45 (Ω := SV × SH)) (An A45 2) C45 [.ptr 0 0, .agg (I 15 :: encT x)] (objs LM t tw m) (KT 2) =
    br (uB (Wk.V x)) (br (uB (wU (Wk.V x / 4294967296 + 1))) (br (mCasB (mClear (m)) 1 (Wk.V x)) (some (.tup [.agg (encW { x with line := 0 }), I 1, B true], (objs LM t tw (mCas (mClear (m)) 1 (Wk.V x) (pHead (w64' (Wk.K x - 1)) (wU (Wk.V x / 4294967296 + 1))))))) (some (.tup [.agg (encW { x with line := 13 }), I 0, B true], (objs LM t tw (mCas (mClear (m)) 1 (Wk.V x) (pHead (w64' (Wk.K x - 1)) (wU (Wk.V x / 4294967296 + 1)))))))) none) none := by kernel_rfl
theorem nSP_23 (m : Mm) (x : Wk) (t tw : Nat) :
    sxFn (E45 (Ω := SV × SH)) (An A45 2) C45 [.ptr 0 0, .agg (I 23 :: encT x)] (objs LM t tw m) (KT 2) =
    some (.tup [.agg (encW { x with line := 24, V := mLoadV (mClear (m)) 2 }), I 0, B true], (objs LM t tw (mLoad (mClear (m)) 2))) := by kernel_rfl
theorem nSP_12 (m : Mm) (x : Wk) (t tw : Nat) :
    sxFn (E45 (Ω := SV × SH)) (An A45 2) C45 [.ptr 0 0, .agg (I 12 :: encT x)] (objs LM t tw m) (KT 2) =
    br (uB (Wk.V x)) (br (uB (wU (Wk.V x / 4294967296 + 1))) (br (mCasB (mClear (m)) 1 (Wk.V x)) (some (.tup [.agg (encW { x with line := 0 }), I 1, B true], (objs LM t tw (mCas (mClear (m)) 1 (Wk.V x) (pHead (w64' (w64' (wU (IntKind.wrap .u32 (Wk.N x))) - 1)) (wU (Wk.V x / 4294967296 + 1))))))) (some (.tup [.agg (encW { x with line := 10 }), I 0, B true], (objs LM t tw (mCas (mClear (m)) 1 (Wk.V x) (pHead (w64' (w64' (wU (IntKind.wrap .u32 (Wk.N x))) - 1)) (wU (Wk.V x / 4294967296 + 1)))))))) none) none := by kernel_rfl
theorem nSP_20 (m : Mm) (x : Wk) (t tw : Nat) :
    sxFn (E45 (Ω := SV × SH)) (An A45 2) C45 [.ptr 0 0, .agg (I 20 :: encT x)] (objs LM t tw m) (KT 2) =
    br (wU (IntKind.wrap .u32 (mLoadV (mClear (m)) 2)) == 0) (some (.tup [.agg (encW { x with line := 0, H := wU (IntKind.wrap .u32 (mLoadV (mClear (m)) 2)), V := mLoadV (mClear (m)) 2 }), I 2, B true], (objs LM t tw (mLoad (mClear (m)) 2)))) (some (.tup [.agg (encW { x with line := 21, H := wU (IntKind.wrap .u32 (mLoadV (mClear (m)) 2)), V := mLoadV (mClear (m)) 2 }), I 0, B true], (objs LM t tw (mLoad (mClear (m)) 2)))) := by kernel_rfl
theorem nSP_24 (m : Mm) (x : Wk) (t tw : Nat) :
    sxFn (E45 (Ω := SV × SH)) (An A45 2) C45 [.ptr 0 0, .agg (I 24 :: encT x)] (objs LM t tw m) (KT 2) =
    some (.tup [.agg (encW { x with line := 25 }), I 0, B true], (objs LM t tw (mStore (mClear (m)) (adr (Mm.c m) 4 (w64' (Wk.I x - 1))) (wU (IntKind.wrap .u32 (Wk.V x)))))) := by kernel_rfl
theorem nSP_13 (m : Mm) (x : Wk) (t tw : Nat) :
    sxFn (E45 (Ω := SV × SH)) (An A45 2) C45 [.ptr 0 0, .agg (I 13 :: encT x)] (objs LM t tw m) (KT 2) =
    some (.tup [.agg (encW { x with line := 14, V := mLoadV (mClear (m)) 1 }), I 0, B true], (objs LM t tw (mLoad (mClear (m)) 1))) := by kernel_rfl
theorem nSP_21 (m : Mm) (x : Wk) (t tw : Nat) :
    sxFn (E45 (Ω := SV × SH)) (An A45 2) C45 [.ptr 0 0, .agg (I 21 :: encT x)] (objs LM t tw m) (KT 2) =
    some (.tup [.agg (encW { x with line := 22, N := mLoadV (mClear (m)) (adr (Mm.c m) 4 (w64' (w64' (Wk.H x) - 1))) }), I 0, B true], (objs LM t tw (mLoad (mClear (m)) (adr (Mm.c m) 4 (w64' (w64' (Wk.H x) - 1)))))) := by kernel_rfl
theorem nSP_25 (m : Mm) (x : Wk) (t tw : Nat) :
    sxFn (E45 (Ω := SV × SH)) (An A45 2) C45 [.ptr 0 0, .agg (I 25 :: encT x)] (objs LM t tw m) (KT 2) =
    br (uB (Wk.V x)) (br (uB (wU (Wk.V x / 4294967296 + 1))) (br (mCasB (mClear (m)) 2 (Wk.V x)) (some (.tup [.agg (encW { x with line := 0 }), I 1, B true], (objs LM t tw (mCas (mClear (m)) 2 (Wk.V x) (pHead (w64' (Wk.I x - 1)) (wU (Wk.V x / 4294967296 + 1))))))) (some (.tup [.agg (encW { x with line := 23 }), I 0, B true], (objs LM t tw (mCas (mClear (m)) 2 (Wk.V x) (pHead (w64' (Wk.I x - 1)) (wU (Wk.V x / 4294967296 + 1)))))))) none) none := by kernel_rfl
abbrev OSP (q : Int) : Prop := ∀ (m : Mm) (x : Wk) (t tw : TypeId), sxFn (E45 (Ω := SV × SH)) (An A45 2) C45 [.ptr 0 0, .agg (I q :: encT x)] (objs LM t tw m) (KT 2) = some (.tup [.agg (I q :: encT x), I 0, B false], objs LM t tw m)
theorem oSP_neg (n : Nat) : OSP (Int.negSucc n) := fun m x t tw => by
  have hq : Int.negSucc n < 0 := Int.negSucc_lt_zero n
  generalize (Int.negSucc n : Int) = q at hq ⊢
  rw [nSP_any]
  simp only [decide_eq_true (show q < 10 by omega), decide_eq_true (show q ≤ 10 by omega), decide_eq_false (show ¬ q > 10 by omega), decide_eq_false (show ¬ q ≥ 10 by omega), decide_eq_true (show q < 15 by omega), decide_eq_true (show q ≤ 15 by omega), decide_eq_false (show ¬ q > 15 by omega), decide_eq_false (show ¬ q ≥ 15 by omega), decide_eq_true (show q < 20 by omega), decide_eq_true (show q ≤ 20 by omega), decide_eq_false (show ¬ q > 20 by omega), decide_eq_false (show ¬ q ≥ 20 by omega), decide_eq_true (show q < 25 by omega), decide_eq_true (show q ≤ 25 by omega), decide_eq_false (show ¬ q > 25 by omega), decide_eq_false (show ¬ q ≥ 25 by omega), br_t, br_f]
  all_goals rfl
theorem oSP_top (n : Nat) : OSP (Int.ofNat (n + 26)) := fun m x t tw => by
  have hq : Int.ofNat (n + 26) ≥ 26 := by simp only [ge_iff_le, Int.ofNat_eq_natCast]; omega
  generalize (Int.ofNat (n + 26) : Int) = q at hq ⊢
  rw [nSP_any]
  simp only [decide_eq_false (show ¬ q < 10 by omega), decide_eq_false (show ¬ q ≤ 10 by omega), decide_eq_true (show q > 10 by omega), decide_eq_true (show q ≥ 10 by omega), decide_eq_false (show ¬ q < 15 by omega), decide_eq_false (show ¬ q ≤ 15 by omega), decide_eq_true (show q > 15 by omega), decide_eq_true (show q ≥ 15 by omega), decide_eq_false (show ¬ q < 20 by omega), decide_eq_false (show ¬ q ≤ 20 by omega), decide_eq_true (show q > 20 by omega), decide_eq_true (show q ≥ 20 by omega), decide_eq_false (show ¬ q < 25 by omega), decide_eq_false (show ¬ q ≤ 25 by omega), decide_eq_true (show q > 25 by omega), decide_eq_true (show q ≥ 25 by omega), br_t, br_f]
  all_goals rfl
theorem oSP_0 : OSP (Int.ofNat 0) := fun m x t tw => by kernel_rfl
theorem oSP_1 : OSP (Int.ofNat 1) := fun m x t tw => by kernel_rfl
theorem oSP_2 : OSP (Int.ofNat 2) := fun m x t tw => by kernel_rfl
theorem oSP_3 : OSP (Int.ofNat 3) := fun m x t tw => by kernel_rfl
theorem oSP_4 : OSP (Int.ofNat 4) := fun m x t tw => by kernel_rfl
theorem oSP_5 : OSP (Int.ofNat 5) := fun m x t tw => by kernel_rfl
theorem oSP_6 : OSP (Int.ofNat 6) := fun m x t tw => by kernel_rfl
theorem oSP_7 : OSP (Int.ofNat 7) := fun m x t tw => by kernel_rfl
theorem oSP_8 : OSP (Int.ofNat 8) := fun m x t tw => by kernel_rfl
theorem oSP_9 : OSP (Int.ofNat 9) := fun m x t tw => by kernel_rfl
theorem oSP_16 : OSP (Int.ofNat 16) := fun m x t tw => by kernel_rfl
theorem oSP_17 : OSP (Int.ofNat 17) := fun m x t tw => by kernel_rfl
theorem oSP_18 : OSP (Int.ofNat 18) := fun m x t tw => by kernel_rfl
theorem oSP_19 : OSP (Int.ofNat 19) := fun m x t tw => by kernel_rfl
theorem mS_no {m : Mm} {x : Wk} (h : x.line ≠ 10 ∧ x.line ≠ 11 ∧ x.line ≠ 12 ∧ x.line ≠ 13 ∧ x.line ≠ 14 ∧ x.line ≠ 15 ∧ x.line ≠ 20 ∧ x.line ≠ 21 ∧ x.line ≠ 22 ∧ x.line ≠ 23 ∧ x.line ≠ 24 ∧ x.line ≠ 25) : stepS m x = ⟨m, x, 0, false⟩ := by
  have h1 : ¬ (10 ≤ x.line ∧ x.line ≤ 15) := by omega
  have h2 : ¬ (20 ≤ x.line ∧ x.line ≤ 25) := by omega
  simp only [stepS, h1, h2, ↓reduceIte]
theorem vSP_10 {m : Mm} {x : Wk} {t tw : TypeId} (hm : okM m = true) (hx : okW x = true) : sxFn (E45 (Ω := SV × SH)) (An A45 2) C45 [.ptr 0 0, .agg (I 10 :: encT x)] (objs LM t tw m) (KT 2) = some (.tup [.agg (encW (stepS m { x with line := 10 }).x), I (stepS m { x with line := 10 }).way, B (stepS m { x with line := 10 }).ok], objs LM t tw (stepS m { x with line := 10 }).m) := by
  obtain ⟨b1, b2, b3, b4, b5, b6, b7, b8, b9, b10, b11, b12⟩ := okW_all hx
  have hu := okM_u hm
  rw [nSP_10]
  try simp only [clrV, clrL, clrS, clrB, clrC, clrA, clrAV, b1, b2, b3, b4, b5, b6, b7, b8, b9, b10, b11, b12, uB_load hu, tmod_load hu, tdiv_load hu (show (0 : Int) < 2 by decide), cfg_a1 hm, low32, w64_low, vers b9, uB_vers b9, nn (uB_load hu), nn b3, nn b8, nn b9, nn b11, nn b12, ge_iff_le, Bool.and_true, Bool.true_and, br_t]
  simp only [stepS, Int.reduceEq, ↓reduceIte, stepL, Int.reduceLE, and_self, and_true, and_false, Int.reduceAdd]
  cases h0 : (mLoadV m 1 % 4294967296 == 0) <;> simp only [h0, br_t, br_f, cond_true, cond_false, Bool.not_true, Bool.not_false, Bool.true_and, Bool.false_and, Bool.and_true, Bool.and_false] <;> first | rfl | (rw [eq_of_beq h0]; done) | (rw [eq_of_beq h0]; rfl)
theorem vSP_11 {m : Mm} {x : Wk} {t tw : TypeId} (hm : okM m = true) (hx : okW x = true) : sxFn (E45 (Ω := SV × SH)) (An A45 2) C45 [.ptr 0 0, .agg (I 11 :: encT x)] (objs LM t tw m) (KT 2) = some (.tup [.agg (encW (stepS m { x with line := 11 }).x), I (stepS m { x with line := 11 }).way, B (stepS m { x with line := 11 }).ok], objs LM t tw (stepS m { x with line := 11 }).m) := by
  obtain ⟨b1, b2, b3, b4, b5, b6, b7, b8, b9, b10, b11, b12⟩ := okW_all hx
  have hu := okM_u hm
  rw [nSP_11]
  try simp only [clrV, clrL, clrS, clrB, clrC, clrA, clrAV, b1, b2, b3, b4, b5, b6, b7, b8, b9, b10, b11, b12, uB_load hu, tmod_load hu, tdiv_load hu (show (0 : Int) < 2 by decide), cfg_a1 hm, low32, w64_low, vers b9, uB_vers b9, nn (uB_load hu), nn b3, nn b8, nn b9, nn b11, nn b12, ge_iff_le, Bool.and_true, Bool.true_and, br_t]
  simp only [stepS, Int.reduceEq, ↓reduceIte, stepL, Int.reduceLE, and_self, and_true, and_false, Int.reduceAdd]
  all_goals rfl
theorem vSP_12 {m : Mm} {x : Wk} {t tw : TypeId} (hm : okM m = true) (hx : okW x = true) : sxFn (E45 (Ω := SV × SH)) (An A45 2) C45 [.ptr 0 0, .agg (I 12 :: encT x)] (objs LM t tw m) (KT 2) = some (.tup [.agg (encW (stepS m { x with line := 12 }).x), I (stepS m { x with line := 12 }).way, B (stepS m { x with line := 12 }).ok], objs LM t tw (stepS m { x with line := 12 }).m) := by
  obtain ⟨b1, b2, b3, b4, b5, b6, b7, b8, b9, b10, b11, b12⟩ := okW_all hx
  have hu := okM_u hm
  rw [nSP_12]
  try simp only [clrV, clrL, clrS, clrB, clrC, clrA, clrAV, b1, b2, b3, b4, b5, b6, b7, b8, b9, b10, b11, b12, uB_load hu, tmod_load hu, tdiv_load hu (show (0 : Int) < 2 by decide), cfg_a1 hm, low32, w64_low, vers b9, uB_vers b9, nn (uB_load hu), nn b3, nn b8, nn b9, nn b11, nn b12, ge_iff_le, Bool.and_true, Bool.true_and, br_t]
  simp only [stepS, Int.reduceEq, ↓reduceIte, stepL, Int.reduceLE, and_self, and_true, and_false, Int.reduceAdd]
  cases h0 : (mCasB m 1 x.V) <;> simp only [h0, br_t, br_f, cond_true, cond_false, Bool.not_true, Bool.not_false, Bool.true_and, Bool.false_and, Bool.and_true, Bool.and_false] <;> first | rfl | (rw [eq_of_beq h0]; done) | (rw [eq_of_beq h0]; rfl)
theorem vSP_13 {m : Mm} {x : Wk} {t tw : TypeId} (hm : okM m = true) (hx : okW x = true) : sxFn (E45 (Ω := SV × SH)) (An A45 2) C45 [.ptr 0 0, .agg (I 13 :: encT x)] (objs LM t tw m) (KT 2) = some (.tup [.agg (encW (stepS m { x with line := 13 }).x), I (stepS m { x with line := 13 }).way, B (stepS m { x with line := 13 }).ok], objs LM t tw (stepS m { x with line := 13 }).m) := by
  obtain ⟨b1, b2, b3, b4, b5, b6, b7, b8, b9, b10, b11, b12⟩ := okW_all hx
  have hu := okM_u hm
  rw [nSP_13]
  try simp only [clrV, clrL, clrS, clrB, clrC, clrA, clrAV, b1, b2, b3, b4, b5, b6, b7, b8, b9, b10, b11, b12, uB_load hu, tmod_load hu, tdiv_load hu (show (0 : Int) < 2 by decide), cfg_a1 hm, low32, w64_low, vers b9, uB_vers b9, nn (uB_load hu), nn b3, nn b8, nn b9, nn b11, nn b12, ge_iff_le, Bool.and_true, Bool.true_and, br_t]
  simp only [stepS, Int.reduceEq, ↓reduceIte, stepL, Int.reduceLE, and_self, and_true, and_false, Int.reduceAdd]
  all_goals rfl
theorem vSP_14 {m : Mm} {x : Wk} {t tw : TypeId} (hm : okM m = true) (hx : okW x = true) : sxFn (E45 (Ω := SV × SH)) (An A45 2) C45 [.ptr 0 0, .agg (I 14 :: encT x)] (objs LM t tw m) (KT 2) = some (.tup [.agg (encW (stepS m { x with line := 14 }).x), I (stepS m { x with line := 14 }).way, B (stepS m { x with line := 14 }).ok], objs LM t tw (stepS m { x with line := 14 }).m) := by
  obtain ⟨b1, b2, b3, b4, b5, b6, b7, b8, b9, b10, b11, b12⟩ := okW_all hx
  have hu := okM_u hm
  rw [nSP_14]
  try simp only [clrV, clrL, clrS, clrB, clrC, clrA, clrAV, b1, b2, b3, b4, b5, b6, b7, b8, b9, b10, b11, b12, uB_load hu, tmod_load hu, tdiv_load hu (show (0 : Int) < 2 by decide), cfg_a1 hm, low32, w64_low, vers b9, uB_vers b9, nn (uB_load hu), nn b3, nn b8, nn b9, nn b11, nn b12, ge_iff_le, Bool.and_true, Bool.true_and, br_t]
  simp only [stepS, Int.reduceEq, ↓reduceIte, stepL, Int.reduceLE, and_self, and_true, and_false, Int.reduceAdd]
  all_goals rfl
theorem vSP_15 {m : Mm} {x : Wk} {t tw : TypeId} (hm : okM m = true) (hx : okW x = true) : sxFn (E45 (Ω := SV × SH)) (An A45 2) C45 [.ptr 0 0, .agg (I 15 :: encT x)] (objs LM t tw m) (KT 2) = some (.tup [.agg (encW (stepS m { x with line := 15 }).x), I (stepS m { x with line := 15 }).way, B (stepS m { x with line := 15 }).ok], objs LM t tw (stepS m { x with line := 15 }).m) := by
  obtain ⟨b1, b2, b3, b4, b5, b6, b7, b8, b9, b10, b11, b12⟩ := okW_all hx
  have hu := okM_u hm
  rw [nSP_15]
  try simp only [clrV, clrL, clrS, clrB, clrC, clrA, clrAV, b1, b2, b3, b4, b5, b6, b7, b8, b9, b10, b11, b12, uB_load hu, tmod_load hu, tdiv_load hu (show (0 : Int) < 2 by decide), cfg_a1 hm, low32, w64_low, vers b9, uB_vers b9, nn (uB_load hu), nn b3, nn b8, nn b9, nn b11, nn b12, ge_iff_le, Bool.and_true, Bool.true_and, br_t]
  simp only [stepS, Int.reduceEq, ↓reduceIte, stepL, Int.reduceLE, and_self, and_true, and_false, Int.reduceAdd]
  cases h0 : (mCasB m 1 x.V) <;> simp only [h0, br_t, br_f, cond_true, cond_false, Bool.not_true, Bool.not_false, Bool.true_and, Bool.false_and, Bool.and_true, Bool.and_false] <;> first | rfl | (rw [eq_of_beq h0]; done) | (rw [eq_of_beq h0]; rfl)
theorem vSP_20 {m : Mm} {x : Wk} {t tw : TypeId} (hm : okM m = true) (hx : okW x = true) : sxFn (E45 (Ω := SV × SH)) (An A45 2) C45 [.ptr 0 0, .agg (I 20 :: encT x)] (objs LM t tw m) (KT 2) = some (.tup [.agg (encW (stepS m { x with line := 20 }).x), I (stepS m { x with line := 20 }).way, B (stepS m { x with line := 20 }).ok], objs LM t tw (stepS m { x with line := 20 }).m) := by
  obtain ⟨b1, b2, b3, b4, b5, b6, b7, b8, b9, b10, b11, b12⟩ := okW_all hx
  have hu := okM_u hm
  rw [nSP_20]
  try simp only [clrV, clrL, clrS, clrB, clrC, clrA, clrAV, b1, b2, b3, b4, b5, b6, b7, b8, b9, b10, b11, b12, uB_load hu, tmod_load hu, tdiv_load hu (show (0 : Int) < 2 by decide), cfg_a1 hm, low32, w64_low, vers b9, uB_vers b9, nn (uB_load hu), nn b3, nn b8, nn b9, nn b11, nn b12, ge_iff_le, Bool.and_true, Bool.true_and, br_t]
  simp only [stepS, Int.reduceEq, ↓reduceIte, stepL, Int.reduceLE, and_self, and_true, and_false, Int.reduceAdd]
  cases h0 : (mLoadV m 2 % 4294967296 == 0) <;> simp only [h0, br_t, br_f, cond_true, cond_false, Bool.not_true, Bool.not_false, Bool.true_and, Bool.false_and, Bool.and_true, Bool.and_false] <;> first | rfl | (rw [eq_of_beq h0]; done) | (rw [eq_of_beq h0]; rfl)
theorem vSP_21 {m : Mm} {x : Wk} {t tw : TypeId} (hm : okM m = true) (hx : okW x = true) : sxFn (E45 (Ω := SV × SH)) (An A45 2) C45 [.ptr 0 0, .agg (I 21 :: encT x)] (objs LM t tw m) (KT 2) = some (.tup [.agg (encW (stepS m { x with line := 21 }).x), I (stepS m { x with line := 21 }).way, B (stepS m { x with line := 21 }).ok], objs LM t tw (stepS m { x with line := 21 }).m) := by
  obtain ⟨b1, b2, b3, b4, b5, b6, b7, b8, b9, b10, b11, b12⟩ := okW_all hx
  have hu := okM_u hm
  rw [nSP_21]
  try simp only [clrV, clrL, clrS, clrB, clrC, clrA, clrAV, b1, b2, b3, b4, b5, b6, b7, b8, b9, b10, b11, b12, uB_load hu, tmod_load hu, tdiv_load hu (show (0 : Int) < 2 by decide), cfg_a1 hm, low32, w64_low, vers b9, uB_vers b9, nn (uB_load hu), nn b3, nn b8, nn b9, nn b11, nn b12, ge_iff_le, Bool.and_true, Bool.true_and, br_t]
  simp only [stepS, Int.reduceEq, ↓reduceIte, stepL, Int.reduceLE, and_self, and_true, and_false, Int.reduceAdd]
  all_goals rfl
theorem vSP_22 {m : Mm} {x : Wk} {t tw : TypeId} (hm : okM m = true) (hx : okW x = true) : sxFn (E45 (Ω := SV × SH)) (An A45 2) C45 [.ptr 0 0, .agg (I 22 :: encT x)] (objs LM t tw m) (KT 2) = some (.tup [.agg (encW (stepS m { x with line := 22 }).x), I (stepS m { x with line := 22 }).way, B (stepS m { x with line := 22 }).ok], objs LM t tw (stepS m { x with line := 22 }).m) := by
  obtain ⟨b1, b2, b3, b4, b5, b6, b7, b8, b9, b10, b11, b12⟩ := okW_all hx
  have hu := okM_u hm
  rw [nSP_22]
  try simp only [clrV, clrL, clrS, clrB, clrC, clrA, clrAV, b1, b2, b3, b4, b5, b6, b7, b8, b9, b10, b11, b12, uB_load hu, tmod_load hu, tdiv_load hu (show (0 : Int) < 2 by decide), cfg_a1 hm, low32, w64_low, vers b9, uB_vers b9, nn (uB_load hu), nn b3, nn b8, nn b9, nn b11, nn b12, ge_iff_le, Bool.and_true, Bool.true_and, br_t]
  simp only [stepS, Int.reduceEq, ↓reduceIte, stepL, Int.reduceLE, and_self, and_true, and_false, Int.reduceAdd]
  cases h0 : (mCasB m 2 x.V) <;> simp only [h0, br_t, br_f, cond_true, cond_false, Bool.not_true, Bool.not_false, Bool.true_and, Bool.false_and, Bool.and_true, Bool.and_false] <;> first | rfl | (rw [eq_of_beq h0]; done) | (rw [eq_of_beq h0]; rfl)
theorem vSP_23 {m : Mm} {x : Wk} {t tw : TypeId} (hm : okM m = true) (hx : okW x = true) : sxFn (E45 (Ω := SV × SH)) (An A45 2) C45 [.ptr 0 0, .agg (I 23 :: encT x)] (objs LM t tw m) (KT 2) = some (.tup [.agg (encW (stepS m { x with line := 23 }).x), I (stepS m { x with line := 23 }).way, B (stepS m { x with line := 23 }).ok], objs LM t tw (stepS m { x with line := 23 }).m) := by
  obtain ⟨b1, b2, b3, b4, b5, b6, b7, b8, b9, b10, b11, b12⟩ := okW_all hx
  have hu := okM_u hm
  rw [nSP_23]
  try simp only [clrV, clrL, clrS, clrB, clrC, clrA, clrAV, b1, b2, b3, b4, b5, b6, b7, b8, b9, b10, b11, b12, uB_load hu, tmod_load hu, tdiv_load hu (show (0 : Int) < 2 by decide), cfg_a1 hm, low32, w64_low, vers b9, uB_vers b9, nn (uB_load hu), nn b3, nn b8, nn b9, nn b11, nn b12, ge_iff_le, Bool.and_true, Bool.true_and, br_t]
  simp only [stepS, Int.reduceEq, ↓reduceIte, stepL, Int.reduceLE, and_self, and_true, and_false, Int.reduceAdd]
  all_goals rfl
theorem vSP_24 {m : Mm} {x : Wk} {t tw : TypeId} (hm : okM m = true) (hx : okW x = true) : sxFn (E45 (Ω := SV × SH)) (An A45 2) C45 [.ptr 0 0, .agg (I 24 :: encT x)] (objs LM t tw m) (KT 2) = some (.tup [.agg (encW (stepS m { x with line := 24 }).x), I (stepS m { x with line := 24 }).way, B (stepS m { x with line := 24 }).ok], objs LM t tw (stepS m { x with line := 24 }).m) := by
  obtain ⟨b1, b2, b3, b4, b5, b6, b7, b8, b9, b10, b11, b12⟩ := okW_all hx
  have hu := okM_u hm
  rw [nSP_24]
  try simp only [clrV, clrL, clrS, clrB, clrC, clrA, clrAV, b1, b2, b3, b4, b5, b6, b7, b8, b9, b10, b11, b12, uB_load hu, tmod_load hu, tdiv_load hu (show (0 : Int) < 2 by decide), cfg_a1 hm, low32, w64_low, vers b9, uB_vers b9, nn (uB_load hu), nn b3, nn b8, nn b9, nn b11, nn b12, ge_iff_le, Bool.and_true, Bool.true_and, br_t]
  simp only [stepS, Int.reduceEq, ↓reduceIte, stepL, Int.reduceLE, and_self, and_true, and_false, Int.reduceAdd]
  all_goals rfl
theorem vSP_25 {m : Mm} {x : Wk} {t tw : TypeId} (hm : okM m = true) (hx : okW x = true) : sxFn (E45 (Ω := SV × SH)) (An A45 2) C45 [.ptr 0 0, .agg (I 25 :: encT x)] (objs LM t tw m) (KT 2) = some (.tup [.agg (encW (stepS m { x with line := 25 }).x), I (stepS m { x with line := 25 }).way, B (stepS m { x with line := 25 }).ok], objs LM t tw (stepS m { x with line := 25 }).m) := by
  obtain ⟨b1, b2, b3, b4, b5, b6, b7, b8, b9, b10, b11, b12⟩ := okW_all hx
  have hu := okM_u hm
  rw [nSP_25]
  try simp only [clrV, clrL, clrS, clrB, clrC, clrA, clrAV, b1, b2, b3, b4, b5, b6, b7, b8, b9, b10, b11, b12, uB_load hu, tmod_load hu, tdiv_load hu (show (0 : Int) < 2 by decide), cfg_a1 hm, low32, w64_low, vers b9, uB_vers b9, nn (uB_load hu), nn b3, nn b8, nn b9, nn b11, nn b12, ge_iff_le, Bool.and_true, Bool.true_and, br_t]
  simp only [stepS, Int.reduceEq, ↓reduceIte, stepL, Int.reduceLE, and_self, and_true, and_false, Int.reduceAdd]
  cases h0 : (mCasB m 2 x.V) <;> simp only [h0, br_t, br_f, cond_true, cond_false, Bool.not_true, Bool.not_false, Bool.true_and, Bool.false_and, Bool.and_true, Bool.and_false] <;> first | rfl | (rw [eq_of_beq h0]; done) | (rw [eq_of_beq h0]; rfl)
theorem vSP {m : Mm} {x : Wk} {t tw : TypeId} (hm : okM m = true) (hx : okW x = true) : sxFn (E45 (Ω := SV × SH)) (An A45 2) C45 [.ptr 0 0, .agg (encW x)] (objs LM t tw m) (KT 2) = some (.tup [.agg (encW (stepS m x).x), I (stepS m x).way, B (stepS m x).ok], objs LM t tw (stepS m x).m) := by
  have no : ∀ q : Int, x.line = q → OSP q → (x.line ≠ 10 ∧ x.line ≠ 11 ∧ x.line ≠ 12 ∧ x.line ≠ 13 ∧ x.line ≠ 14 ∧ x.line ≠ 15 ∧ x.line ≠ 20 ∧ x.line ≠ 21 ∧ x.line ≠ 22 ∧ x.line ≠ 23 ∧ x.line ≠ 24 ∧ x.line ≠ 25) → sxFn (E45 (Ω := SV × SH)) (An A45 2) C45 [.ptr 0 0, .agg (encW x)] (objs LM t tw m) (KT 2) = some (.tup [.agg (encW (stepS m x).x), I (stepS m x).way, B (stepS m x).ok], objs LM t tw (stepS m x).m) := fun q hq ho hn => by
    rw [mS_no hn]
    have := ho m x t tw
    rw [← hq] at this
    exact this
  have ye : ∀ q : Int, x.line = q → (sxFn (E45 (Ω := SV × SH)) (An A45 2) C45 [.ptr 0 0, .agg (I q :: encT x)] (objs LM t tw m) (KT 2) = some (.tup [.agg (encW (stepS m { x with line := q }).x), I (stepS m { x with line := q }).way, B (stepS m { x with line := q }).ok], objs LM t tw (stepS m { x with line := q }).m)) → sxFn (E45 (Ω := SV × SH)) (An A45 2) C45 [.ptr 0 0, .agg (encW x)] (objs LM t tw m) (KT 2) = some (.tup [.agg (encW (stepS m x).x), I (stepS m x).way, B (stepS m x).ok], objs LM t tw (stepS m x).m) := fun q hq h => by
    have e1 : { x with line := q } = x := by rw [← hq]
    have e : I q :: encT x = encW x := by simp only [encW]; rw [hq]
    rw [e1, e] at h
    exact h
  rcases hl : x.line with n | n
  · by_cases hn : 26 ≤ n
    · obtain ⟨k, rfl⟩ : ∃ k, n = k + 26 := ⟨n - 26, by omega⟩
      exact no _ hl (oSP_top k) (by rw [hl]; simp only [Int.ofNat_eq_natCast, ne_eq]; omega)
    · have : n < 26 := by omega
      match n, hl, this with
      | 0, hl, _ => exact no _ hl oSP_0 (by rw [hl]; simp only [Int.ofNat_eq_natCast, ne_eq]; omega)
      | 1, hl, _ => exact no _ hl oSP_1 (by rw [hl]; simp only [Int.ofNat_eq_natCast, ne_eq]; omega)
      | 2, hl, _ => exact no _ hl oSP_2 (by rw [hl]; simp only [Int.ofNat_eq_natCast, ne_eq]; omega)
      | 3, hl, _ => exact no _ hl oSP_3 (by rw [hl]; simp only [Int.ofNat_eq_natCast, ne_eq]; omega)
      | 4, hl, _ => exact no _ hl oSP_4 (by rw [hl]; simp only [Int.ofNat_eq_natCast, ne_eq]; omega)
      | 5, hl, _ => exact no _ hl oSP_5 (by rw [hl]; simp only [Int.ofNat_eq_natCast, ne_eq]; omega)
      | 6, hl, _ => exact no _ hl oSP_6 (by rw [hl]; simp only [Int.ofNat_eq_natCast, ne_eq]; omega)
      | 7, hl, _ => exact no _ hl oSP_7 (by rw [hl]; simp only [Int.ofNat_eq_natCast, ne_eq]; omega)
      | 8, hl, _ => exact no _ hl oSP_8 (by rw [hl]; simp only [Int.ofNat_eq_natCast, ne_eq]; omega)
      | 9, hl, _ => exact no _ hl oSP_9 (by rw [hl]; simp only [Int.ofNat_eq_natCast, ne_eq]; omega)
      | 10, hl, _ => exact ye 10 hl (vSP_10 hm hx)
      | 11, hl, _ => exact ye 11 hl (vSP_11 hm hx)
      | 12, hl, _ => exact ye 12 hl (vSP_12 hm hx)
      | 13, hl, _ => exact ye 13 hl (vSP_13 hm hx)
      | 14, hl, _ => exact ye 14 hl (vSP_14 hm hx)
      | 15, hl, _ => exact ye 15 hl (vSP_15 hm hx)
      | 16, hl, _ => exact no _ hl oSP_16 (by rw [hl]; simp only [Int.ofNat_eq_natCast, ne_eq]; omega)
      | 17, hl, _ => exact no _ hl oSP_17 (by rw [hl]; simp only [Int.ofNat_eq_natCast, ne_eq]; omega)
      | 18, hl, _ => exact no _ hl oSP_18 (by rw [hl]; simp only [Int.ofNat_eq_natCast, ne_eq]; omega)
      | 19, hl, _ => exact no _ hl oSP_19 (by rw [hl]; simp only [Int.ofNat_eq_natCast, ne_eq]; omega)
      | 20, hl, _ => exact ye 20 hl (vSP_20 hm hx)
      | 21, hl, _ => exact ye 21 hl (vSP_21 hm hx)
      | 22, hl, _ => exact ye 22 hl (vSP_22 hm hx)
      | 23, hl, _ => exact ye 23 hl (vSP_23 hm hx)
      | 24, hl, _ => exact ye 24 hl (vSP_24 hm hx)
      | 25, hl, _ => exact ye 25 hl (vSP_25 hm hx)
      | n + 26, _, h => exact absurd h (by omega)
  · exact no _ hl (oSP_neg n) (by rw [hl]; simp only [ne_eq]; omega)
def GS (m : Mm) (l : List SV) : Option (Bool × SV × Mm) := match l with
  | [.agg c] => bif isC ctsW c then some (okM m && okW (decW c), .tup [.agg (encW (stepS m (decW c)).x), I (stepS m (decW c)).way, B (stepS m (decW c)).ok], (stepS m (decW c)).m) else none
  | _ => none
def GSn (l : List SV) : Option SV := match l with
  | [.agg c] => bif isC ctsW c then some (.tup [.agg (encW (decW c)), I 0, B false]) else none
  | _ => none
theorem nS_nil (x : Wk) : sxFn (E45 (Ω := SV × SH)) (An A45 0) C45 [.d (.v (.pointer none)), .agg (encW x)] [] (KT 0) = some (.tup [.agg (encW x), I 0, B false], []) := by kernel_rfl
def S45m {Ω : Type} : Spec Ω := memSpec [none, some ctsW] (findM LM.own) [] (memF LM GS GSn)
theorem g45m : Good1 Try.prog 45 S45m := memFGood (A := A45) Try.func45 (by kernel_rfl) c45 e45 mix (L := LM) lay_M (fun m xs r m' t tw h => by
  unfold GS at h
  split at h
  · rename_i c
    obtain ⟨hc, h⟩ := cond_some h
    simp only [Option.some.injEq, Prod.mk.injEq, Bool.and_eq_true] at h
    obtain ⟨⟨hm, hx⟩, rfl, rfl⟩ := h
    rw [← enc_decW hc]
    rw [dec_encW]
    exact ⟨_, LeV.refl _, vSP hm hx⟩
  · cases h) (fun xs r h => by
  unfold GSn at h
  split at h
  · obtain ⟨hc, h⟩ := cond_some h
    simp only [Option.some.injEq] at h
    subst h
    rw [← enc_decW hc, dec_encW]
    exact nS_nil _
  · cases h)
end Go.Sx.Pr

namespace Go.Sx.Pr
open Go Go.Sx Go.Proofs
set_option maxRecDepth 100000
end Go.Sx.Pr

/- Ready and Home of both layers: what they answer. -/
namespace Go.Sx.Pr
open Go Go.Sx Go.Sx.Md Go.Proofs
set_option maxRecDepth 100000
section
variable (a b c d e f g l x : Int)
end
end Go.Sx.Pr

namespace Go.Sx.Pr
open Go Go.Sx Go.Proofs
set_option maxRecDepth 100000
end Go.Sx.Pr

/- The steps of one layer, program and document, against the pure model. -/
namespace Go.Sx.Pr
open Go Go.Sx Go.Sx.Md Go.Proofs
set_option maxRecDepth 100000
end Go.Sx.Pr

namespace Go.Sx.Pr
open Go Go.Sx Go.Proofs
set_option maxRecDepth 100000
def K52_1 : CC := .seq (.reg false [⟨some 4, .mv (.c (.d (.v (.bool true)))), none, 0⟩])
 (.ret)
def L52_2 : CC := .seq (.seq (.reg false [⟨some 11, .mv (.t 5), none, 0⟩,
   ⟨some 12, .mv (.t 0), none, 0⟩,
   ⟨some 13, .len (.t 12), none, 0⟩,
   ⟨some 14, .bin .lss (.t 11) (.t 13), none, 0⟩])
 (.cond 14 (.skip)
   (.exit 0)))
 (.seq (.block 1 (.seq (.reg true [⟨some 17, .mv (.t 0), none, 0⟩,
     ⟨some 18, .mv (.t 5), none, 0⟩,
     ⟨some 19, .ixs 1 (.t 17) (.t 18), none, 3⟩,
     ⟨some 20, .ld 1 false (.t 19), none, 7⟩,
     ⟨some 21, .mv (.t 1), none, 0⟩,
     ⟨some 22, .mv (.t 5), none, 0⟩,
     ⟨some 23, .ixs 1 (.t 21) (.t 22), none, 48⟩,
     ⟨some 24, .ld 1 false (.t 23), none, 112⟩,
     ⟨some 25, .eq .int true (.t 20) (.t 24), none, 255⟩])
   (.cond 25 (.seq (.reg false [⟨some 4, .mv (.c (.d (.v (.bool false)))), none, 0⟩])
     (.ret))
     (.skip))))
 (.reg false [⟨some 15, .mv (.t 5), none, 0⟩,
   ⟨some 16, .bin .add (.t 15) (.c (.d (.v (.int .i64 1)))), none, 0⟩,
   ⟨some 5, .mv (.t 16), none, 0⟩]))
def K52_3 : CC := .reg false [⟨some 5, .mv (.c (.d (.v (.int .i64 0)))), none, 0⟩]
def K52_4 : CC := .seq (.reg false [⟨some 6, .mv (.t 0), none, 0⟩,
   ⟨some 7, .len (.t 6), none, 0⟩,
   ⟨some 8, .mv (.t 1), none, 0⟩,
   ⟨some 9, .len (.t 8), none, 0⟩,
   ⟨some 10, .eq .int true (.t 7) (.t 9), none, 0⟩])
 (.cond 10 (.seq (.reg false [⟨some 4, .mv (.c (.d (.v (.bool false)))), none, 0⟩])
   (.ret))
   (.skip))
def K52_5 : CC := .reg false [⟨some 4, .mv (.c (.d (.v (.bool false)))), none, 0⟩]
/-- coatcheck/coatcheckref02.Ints -/
def C52 : CF := ⟨2, [(4, none)],
 .seq K52_5 (.seq K52_4 (.seq (.seq K52_3 (.block 0 (.loop L52_2))) K52_1))⟩
theorem c52 : coF Try.prog Try.f52 = some C52 := by kernel_rfl
def A52 : Ann := { keep := [0, 1, 4, 5, 10, 14, 25], live := [(0, [0, 1, 5])] }
def E52 {Ω : Type} : Env Ω := enil
theorem e52 : GoodE Try.prog E52 := GoodE.nil
def Z52_2 {Ω : Type} (it : Itr Ω) (K : SV → SH → Option Ω) : SE → SS → Option Ω := kblk 0 (kseq it E52 A52 K52_1 0 (kfn C52 K))
end Go.Sx.Pr

/- Contract: equality of lists of numbers. -/
namespace Go.Sx.Pr
open Go Go.Sx Go.Proofs
set_option maxRecDepth 100000

/-! ### ref02.Ints -/
abbrev S52s (i : Int) (xs ys : List Int) : SS := ⟨[(0, .d (.ints .i64 xs)), (1, .d (.ints .i64 ys)), (5, I i)], []⟩
section
variable {Ω : Type} (it : Itr Ω) (IT : SS → Option Ω) (K : SV → SH → Option Ω) (xs ys : List Int) (i : Int)
theorem r52 : sxFnI it E52 A52 C52 [.d (.ints .i64 xs), .d (.ints .i64 ys)] [] K =
    br (!((xs.length : Int) == (ys.length : Int))) (K (B false) []) (it [0, 1, 5] 0 (sxI it E52 A52 L52_2 0) (S52s 0 xs ys) (Z52_2 it K)) := by kernel_rfl
theorem r52_1 : sxI it E52 A52 L52_2 0 (S52s i xs ys) (kitV [0, 1, 5] 0 IT (Z52_2 it K)) =
    br (decide (i < (xs.length : Int))) (br (inB i xs.length) (br (inB i ys.length) (br (!(xs.getD i.toNat 0 == ys.getD i.toNat 0)) (K (B false) []) (IT (S52s (IntKind.wrap .i64 (i + 1)) xs ys))) none) none) (K (B true) []) := by kernel_rfl
end

theorem loop52 {Ω : Type} (K : SV → SH → Option Ω) {xs ys : List Int} (hl : xs.length = ys.length) (hb : xs.length < 1000000000) : ∀ (k i n : Nat), xs.length - i = k → i ≤ xs.length → k < n →
    iter [0, 1, 5] 0 (sxI itB E52 A52 L52_2 0) n (S52s i xs ys) (Z52_2 itB K) = K (B (decide (xs.drop i = ys.drop i))) []
  | k, i, 0, _, _, h => by omega
  | k, i, n + 1, hk, hi, hn => by
    rw [iter_succ, r52_1]
    by_cases h : i < xs.length
    · have h1 : decide ((i : Int) < (xs.length : Int)) = true := by simp; omega
      have h2 : inB (i : Int) xs.length = true := by simp [inB]; omega
      have h3 : inB (i : Int) ys.length = true := by simp [inB]; omega
      have h4 : IntKind.wrap .i64 ((i : Int) + 1) = ((i + 1 : Nat) : Int) := by rw [w64] <;> omega
      have hy : i < ys.length := by omega
      have e1 : xs.getD ((i : Int)).toNat 0 = xs[i] := by simp [List.getD_eq_getElem?_getD, h]
      have e2 : ys.getD ((i : Int)).toNat 0 = ys[i] := by simp [List.getD_eq_getElem?_getD, hy]
      rw [h1, h2, h3, h4, e1, e2]
      simp only [br, cond_true]
      have hd : (xs.drop i = ys.drop i) ↔ (xs[i] = ys[i] ∧ xs.drop (i + 1) = ys.drop (i + 1)) := by rw [List.drop_eq_getElem_cons h, List.drop_eq_getElem_cons hy, List.cons.injEq]
      have hd' : decide (xs.drop i = ys.drop i) = decide (xs[i] = ys[i] ∧ xs.drop (i + 1) = ys.drop (i + 1)) := decide_eq_decide.2 hd
      rw [hd']
      by_cases e : xs[i] = ys[i]
      · have : (!(xs[i] == ys[i])) = false := by simp [e]
        rw [this]
        simp only [cond_false]
        rw [loop52 K hl hb (k - 1) (i + 1) n (by omega) (by omega) (by omega)]
        simp only [e, true_and]
      · have : (!(xs[i] == ys[i])) = true := by simp [e]
        rw [this]
        simp only [e, false_and, cond_true, decide_false]
    · have h1 : decide ((i : Int) < (xs.length : Int)) = false := by simp; omega
      rw [h1]
      simp only [br, cond_false]
      rw [List.drop_eq_nil_of_le (by omega), List.drop_eq_nil_of_le (by omega)]
      simp

theorem v52 {Ω : Type} (K : SV → SH → Option Ω) (xs ys : List Int) (hb : xs.length < 1000000000) : sxFn E52 A52 C52 [.d (.ints .i64 xs), .d (.ints .i64 ys)] [] K = K (B (decide (xs = ys))) [] := by
  rw [← sxFnI_eq, r52]
  by_cases h : xs.length = ys.length
  · have : (!((xs.length : Int) == (ys.length : Int))) = false := by simp [h]
    rw [this]
    simp only [br, cond_false]
    have := loop52 K h hb xs.length 0 big (by omega) (by omega) (by unfold big; omega)
    simpa [itB] using this
  · have : (!((xs.length : Int) == (ys.length : Int))) = true := by simp; omega
    rw [this]
    have : xs ≠ ys := fun e => h (by rw [e])
    simp [br, this]

def FInts : List (List Int) → Option (Bool × SV × SH)
  | [xs, ys] => some (decide (xs.length < 1000000000), B (decide (xs = ys)), [])
  | _ => none
def S52 {Ω : Type} : Spec Ω := conSpec [.s .i64, .s .i64] FInts
theorem g52 : Good1 Try.prog 52 S52 := conGood Try.func52 (by kernel_rfl) c52 e52 mix (A := A52) fun l r hr hl hF => by
  obtain ⟨xs, q, rfl, _, ys, q', rfl, _, hq⟩ := hl
  simp only [lenAs] at hq
  subst hq
  simp only [FInts, Option.some.injEq, Prod.mk.injEq] at hF
  obtain ⟨h1, rfl, rfl⟩ := hF
  exact ⟨trivial, trivial, _, trim_none rfl _, v52 _ xs ys (by simpa using h1)⟩

end Go.Sx.Pr

namespace Go.Sx.Pr
open Go Go.Sx Go.Proofs
set_option maxRecDepth 100000
end Go.Sx.Pr

namespace Go.Sx.Pr
open Go Go.Sx Go.Proofs
set_option maxRecDepth 100000
end Go.Sx.Pr

/- A worker's states compared; too great a state: what the document's functions answer. -/
namespace Go.Sx.Pr
open Go Go.Sx Go.Sx.Md Go.Proofs
set_option maxRecDepth 100000
def lenW (x : Wk) : Bool := decide (x.rack.length < 1000000000) && (decide (x.hold.length < 1000000000) && (decide (x.read.length < 1000000000) && (decide (x.l0.length < 1000000000) && (decide (x.l1.length < 1000000000) && decide (x.l2.length < 1000000000)))))
end Go.Sx.Pr

/- Contracts with memory of functions that leave some of the locs as they are. -/
namespace Go.Sx

end Go.Sx

/- All: a copy of a memory's words. -/
namespace Go.Sx.Pr
open Go Go.Sx Go.Sx.Md Go.Proofs
set_option maxRecDepth 100000
end Go.Sx.Pr

/- Contracts whose answer is a new row that nobody writes any more: data. -/
namespace Go.Sx

def altsD {Ω : Type} (k : SV → List Nat → List Nat → SH → Option Ω) (h : SH) : List (Bool × Nat × Nat × (Nat → Nat → Value)) → Option Ω
  | [] => none
  | (g, sz, n, f) :: rest => br g (k (.d (.sl sz n fun i j => .v (f i j))) [] [] h) (altsD k h rest)

def firstD : List (Bool × Nat × Nat × (Nat → Nat → Value)) → Option (Nat × Nat × (Nat → Nat → Value))
  | [] => none
  | (g, x) :: rest => bif g then some x else firstD rest

def conSpecD (ts : List AT) (F : List (List Int) → List (Bool × Nat × Nat × (Nat → Nat → Value))) {Ω : Type} : Spec Ω := fun args h k =>
  match lendAs h ts args with
  | some l => altsD k h (F l)
  | none => none

theorem altsD_first {Ω : Type} {k : SV → List Nat → List Nat → SH → Option Ω} {h : SH} {out : Ω} : ∀ {L : List (Bool × Nat × Nat × (Nat → Nat → Value))}, altsD k h L = some out → ∃ sz n f, firstD L = some (sz, n, f) ∧ k (.d (.sl sz n fun i j => .v (f i j))) [] [] h = some out
  | [], e => by cases e
  | (g, sz, n, f) :: rest, e => by
    cases g with
    | true => exact ⟨sz, n, f, rfl, e⟩
    | false =>
      obtain ⟨sz', n', f', h1, h2⟩ := altsD_first (L := rest) e
      exact ⟨sz', n', f', h1, h2⟩

theorem altsD_of {Ω : Type} {k : SV → List Nat → List Nat → SH → Option Ω} {h : SH} : ∀ {L : List (Bool × Nat × Nat × (Nat → Nat → Value))} {sz n : Nat} {f : Nat → Nat → Value}, firstD L = some (sz, n, f) → altsD k h L = k (.d (.sl sz n fun i j => .v (f i j))) [] [] h
  | [], _, _, _, e => by cases e
  | (g, x) :: rest, sz, n, f, e => by
    cases g with
    | true =>
      simp only [firstD, cond_true, Option.some.injEq] at e
      subst e
      rfl
    | false => exact altsD_of (L := rest) e

theorem conD_par {ts : List AT} {F : List (List Int) → List (Bool × Nat × Nat × (Nat → Nat → Value))} {Ω Ω' : Type} : SpecPar (conSpecD ts F (Ω := Ω)) (conSpecD ts F (Ω := Ω')) := by
  intro args h k out hs
  unfold conSpecD at hs ⊢
  split at hs
  · rename_i l hl
    obtain ⟨sz, n, f, h1, h2⟩ := altsD_first hs
    exact ⟨_, _, _, _, h2, fun k' => altsD_of h1⟩
  · cases hs

theorem conGoodD {P : Program} {g : Nat} {fn : Func} (hf : P.funcs[g]? = some fn) (hname : (fn.name == "runtime.NumGoroutine") = false) {C : CF} (hC : coF P fn = some C) {A : Ann} {e : {Ω : Type} → Env Ω} (he : GoodE P e) (hmix : P.follows .mixedOrders = true)
    {ts : List AT} {F : List (List Int) → List (Bool × Nat × Nat × (Nat → Nat → Value))}
    (hrun : ∀ l sz n f, lenAs ts l → firstD (F l) = some (sz, n, f) → ∃ L H t q, sxFn (e (Ω := SV × SH)) A C (encAs ts l) [] (fun r h => some (r, h)) = some (.own L, H) ∧ hget H L = .row t sz n q ∧ ∀ i, i < n → ∀ j, j < sz → q i j = .v (f i j)) :
    Good1 P g (fun {Ω} => conSpecD ts F (Ω := Ω)) := by
  have hbody : ∃ c, fn.body = some c := by
    unfold coF at hC
    split at hC
    · rename_i c hb; exact ⟨c, hb⟩
    · cases hC
  obtain ⟨c, hb⟩ := hbody
  have henter : ∀ (args : Array Value) (w : World), (callFunc g args).run P w = .ok (.enter g args) w := fun args w => by
    have h1 : fn.name ≠ "runtime.NumGoroutine" := by simpa using hname
    simp [callFunc, hf, h1, hb]
  refine ⟨fun Ω => ⟨henter, fun args h k out hs => ?_⟩, fun Ω Ω' => conD_par⟩
  unfold conSpecD at hs
  split at hs
  · rename_i l hl
    obtain ⟨sz, n, f, hF, hk⟩ := altsD_first hs
    obtain ⟨L, H, t, q, hrun, hrow, hq⟩ := hrun l sz n f (lendAs_len hl) hF
    refine ⟨_, [], [], _, hk, ⟨Nat.le_refl _, fun _ _ _ => rfl⟩, fun cx w vals hg ha => ?_⟩
    refine (fn_calls (he.ok _) hmix hf hC hrun (cxA w) w vals (gamL w _) (lendAs_ok hg hl ha)).mono fun e w' ⟨v, cxs, e1, gr, hr, hG⟩ => ?_
    have hsame : ∀ b, b < w.heap.size → w'.heap[b]? = w.heap[b]? := fun b hb => gr.same b (cxL_all hb)
    have hobj := hG.obj L
    rw [hrow] at hobj
    obtain ⟨hln, hrs, hcp, hz, hh⟩ := hobj
    simp only [SRep] at hr
    have hnew : cxs.nl L = false → w.heap.size ≤ cxs.th L ∧ cxs.th L < w'.heap.size := fun hnl => by
      have hlv : liv cxs H L := by simp [liv, hrow, hnl]
      refine ⟨?_, hG.lt L hlv⟩
      rcases Nat.lt_or_ge (cxs.th L) w.heap.size with h1 | h1
      · exact absurd (gr.hd _ (cxL_all h1)) (hG.own L hlv)
      · exact h1
    have gr2 : Grow0 cx w { cx with fz := fun b => cx.fz b ∨ (b = cxs.th L ∧ cxs.nl L = false) } w' :=
      ⟨fun _ hb => .inl hb, fun b hb => hsame b (hg.fzlt b hb), gr.size, fun l hl _ => ⟨hl, rfl, rfl, rfl, rfl, rfl⟩, rfl, gr.io⟩
    have hlv : ∀ l, liv { cx with fz := fun b => cx.fz b ∨ (b = cxs.th L ∧ cxs.nl L = false) } h l → liv cx h l := fun l hl => hl
    have nm : (fun l => nmem l []) = fun _ => false := funext fun l => by simp [nmem]
    rw [nm]
    refine ⟨v, _, e1, gr2, ?_, ⟨hg.n, fun m => ?_, fun m hm => Nat.lt_of_lt_of_le (hg.lt m (hlv m hm)) gr.size, fun m hm hhd => ?_, fun a b ha hb => hg.inj a b (hlv a ha) (hlv b hb), fun b hb => ?_, fun b hb hfr => ?_⟩⟩
    · simp only [SRep, DRep]
      refine ⟨_, _, by rw [← hln]; exact hr.2, hcp, fun hn => ?_⟩
      cases hnl : cxs.nl L with
      | true => have := hz hnl; omega
      | false =>
        obtain ⟨t', c', hb, hs, hc⟩ := hh hnl
        refine ⟨cxs.th L, 0, by simp [], .inr ⟨rfl, rfl⟩, fun i hi j hj => ?_⟩
        obtain ⟨x, hx, hd⟩ := hc i hi j hj
        refine ⟨x, by simp [World.cell?, ad, hb, hx], ?_⟩
        rw [hq i hi j hj] at hd
        simpa [DRep] using hd
    · rcases Nat.lt_or_ge m h.length with hm | hm
      · exact ORep.keep (h := h) gr2 (hg.n ▸ hm) _ rfl (fun hv => hsame _ (hg.lt m hv)) (hg.obj m)
      · rw [hget_ge hm]; trivial
    · have h1 := hg.lt m (hlv m hm)
      rcases hhd with (h2 | ⟨h2, h3⟩) | h2
      · exact hg.own m (hlv m hm) (.inl h2)
      · have := (hnew h3).1
        simp only at h2
        omega
      · exact hg.own m (hlv m hm) (.inr h2)
    · rcases hb with (h2 | ⟨h2, h3⟩) | h2
      · exact Nat.lt_of_lt_of_le (hg.fzlt b (.inl h2)) gr.size
      · rw [h2]; exact (hnew h3).2
      · exact Nat.lt_of_lt_of_le (hg.fzlt b (.inr h2)) gr.size
    · rcases hb with h2 | ⟨h2, h3⟩
      · exact hg.dj b h2 hfr
      · have h4 := hg.fzlt b (.inr hfr)
        have := (hnew h3).1
        omega
  · cases hs
end Go.Sx

/- All's list as data. -/
namespace Go.Sx.Pr
open Go Go.Sx Go.Sx.Md Go.Proofs
set_option maxRecDepth 100000
def FAllD : List (List Int) → List (Bool × Nat × Nat × (Nat → Nat → Value))
  | [[a, b, c, d, e, f, g, l]] => [(chk a b c d e f g l == 0, 3, sizeN a.toNat b.toNat c.toNat d.toNat e.toNat, fun i j => .int .i64 (spot a.toNat b.toNat d.toNat e.toNat i j))]
  | _ => []
def S20d {Ω : Type} : Spec Ω := conSpecD [.g cfgK] FAllD
theorem g20d : Good1 Try.prog 20 S20d := conGoodD Try.func20 (by kernel_rfl) c20 e20 mix (A := A20) fun L sz n f hl hF => by
  obtain ⟨x, rfl, hx⟩ := lenAs_one hl
  obtain ⟨a, b, c, d, e, ff, g, i, rfl⟩ := eight hx
  simp only [FAllD, firstD] at hF
  cases h : (chk a b c d e ff g i == 0) with
  | false => rw [h] at hF; cases hF
  | true =>
    rw [h] at hF
    simp only [cond_true, Option.some.injEq, Prod.mk.injEq] at hF
    obtain ⟨rfl, rfl, rfl⟩ := hF
    refine ⟨3, _, _, _, v20 _ (by simpa using h), rfl, fun i hi j hj => qAll_spot hi hj⟩
end Go.Sx.Pr
