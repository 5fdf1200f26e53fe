/- The pieces of coatchecklaw11.EntryChanges. -/
import Derived.Test.YtljmncdlehinnaaT12
import Derived.Test.YtljmncdlehinnaaT12
import Derived.Test.YtljmncdlehinnaaT12
import Derived.Test.YtljmncdlehinnaaT12
import Derived.KernelRfl
import Derived.Test.YtljmncdlehinnaaN1
import Derived.Test.YtljmncdlehinnaaR9
set_option linter.all false
set_option linter.unusedVariables false
set_option linter.unusedSimpArgs false
set_option linter.unnecessarySimpa false
namespace Go.Sx.Pr
open Go Go.Sx Go.Sx.Md Go.Proofs
set_option maxRecDepth 100000

theorem seqE {Ω : Type} {it : Itr Ω} {E : Env Ω} {A : Ann} (a b : CC) (n : Nat) (s : SS) (k : SE → SS → Option Ω) : sxI it E A (.seq a b) n s k = sxI it E A a n s (kseq it E A b n k) := id (Eq.refl _)
theorem kseqA {Ω : Type} {it : Itr Ω} {E : Env Ω} {A : Ann} (a b : CC) (n : Nat) (k : SE → SS → Option Ω) : kseq it E A (.seq a b) n k = kseq it E A a n (kseq it E A b n k) := by
  funext e s; cases e <;> rfl
theorem code7 {Ω : Type} {it : Itr Ω} (s : SS) (k : SE → SS → Option Ω) : sxI it E1007 A1007 C1007.code 0 s k =
    sxI it E1007 A1007 PA7 0 s (kseq it E1007 A1007 PB7 0 (kseq it E1007 A1007 PB7' 0 (kseq it E1007 A1007 PC7 0 (kseq it E1007 A1007 PD7 0 (kseq it E1007 A1007 PE7 0 (kseq it E1007 A1007 PF7 0 (kseq it E1007 A1007 (.seq K1007_2 K1007_1) 0 k))))))) := by
  simp only [C1007, PA7, PB7, PB7', PC7, PD7, PE7, PF7, seqE, kseqA]
end Go.Sx.Pr

/- Normal forms of coatchecklaw11.EntryChanges: replacing. -/
namespace Go.Sx.Pr
open Go Go.Sx Go.Sx.Md Go.Proofs
set_option maxRecDepth 100000
theorem nC7 {Ω : Type} (it : Itr Ω) (K : SE → SS → Option Ω) (c : Cf) (ws : List Int) (t k p way : Int) (q : Bool) (m : Mm) (x : Wk) :
    sxI it E1007 A1007 PC7 0 ⟨[(0, .agg (encC c)), (1, .d (.ints .u64 ws)), (2, U t), (3, .d (.v (.int .u8 k))), (4, .ptr 0 0), (8, B false), (9, .ptr 5 0), (11, B true), (12, I p), (13, B q), (14, .ptr 9 0), (15, I way)], [.cells 26 (encC c), .dead, .dead, .dead, .rowi 24 .u64 m.ws, .cells 79 (memC m.c m.s 4), .dead, .rowi 24 .u64 ws, .cells 103 (memD c ac0 7), .cells 40 (encW x)]⟩ K =
    br (okM (m) && okW ({ wk0 with line := 44, T := t })) (K .norm (SS.mk [(0, .agg [I (Cf.a c), I (Cf.b c), I (Cf.c c), I (Cf.d c), I (Cf.e c), I (Cf.f c), I (Cf.g c), U (Cf.l c)]), (1, .d (DV.ints .u64 ws)), (2, U t), (3, .d (DV.v (Value.int .u8 k))), (4, .ptr 0 0), (8, B false), (9, .ptr 5 0), (11, B true), (12, I p), (13, B q), (14, .ptr 9 0), (15, I (SR.way (stepN (m) ({ wk0 with line := 44, T := t }))))] [.cells 26 (encC c), .dead, .dead, .dead, .rowi 24 .u64 (Mm.ws (SR.m (stepN (m) ({ wk0 with line := 44, T := t })))), .cells 79 (memC (Mm.c (SR.m (stepN (m) ({ wk0 with line := 44, T := t })))) (Mm.s (SR.m (stepN (m) ({ wk0 with line := 44, T := t })))) 4), .dead, .rowi 24 .u64 ws, .cells 103 (memD c ac0 7), .cells 40 (encW { (SR.x (stepN (m) ({ wk0 with line := 44, T := t }))) with line := 45, B := IntKind.wrap .i64 (Int.tmod (w64' k) 40 + 1) })])) none := by kernel_rfl
theorem nE7 {Ω : Type} (it : Itr Ω) (K : SE → SS → Option Ω) (c : Cf) (ws w1 : List Int) (t k p way v17 v19 : Int) (q v20 : Bool) (m : Mm) (x : Wk) :
    sxI it E1007 A1007 PE7 0 ⟨[(0, .agg (encC c)), (1, .d (.ints .u64 ws)), (2, U t), (3, .d (.v (.int .u8 k))), (4, .ptr 0 0), (8, B false), (9, .ptr 5 0), (11, B true), (12, I p), (13, B q), (14, .ptr 9 0), (15, I way), (17, I v17), (19, I v19), (20, B v20)], [.cells 26 (encC c), .dead, .dead, .dead, .rowi 24 .u64 m.ws, .cells 79 (memC m.c m.s 4), .dead, .rowi 24 .u64 ws, .cells 103 (memD c ac0 7), .cells 40 (encW x), .rowi 24 .u64 w1]⟩ K =
    br (okM (m) && okW ({ wk0 with line := 42, T := t })) (K .norm (SS.mk [(0, .agg [I (Cf.a c), I (Cf.b c), I (Cf.c c), I (Cf.d c), I (Cf.e c), I (Cf.f c), I (Cf.g c), U (Cf.l c)]), (1, .d (DV.ints .u64 ws)), (2, U t), (3, .d (DV.v (Value.int .u8 k))), (4, .ptr 0 0), (8, B false), (9, .ptr 5 0), (11, B true), (12, I p), (13, B q), (14, .ptr 9 0), (15, I (SR.way (stepN (m) ({ wk0 with line := 42, T := t })))), (17, I v17), (19, I v19), (20, B v20)] [.cells 26 (encC c), .dead, .dead, .dead, .rowi 24 .u64 (Mm.ws (SR.m (stepN (m) ({ wk0 with line := 42, T := t })))), .cells 79 (memC (Mm.c (SR.m (stepN (m) ({ wk0 with line := 42, T := t })))) (Mm.s (SR.m (stepN (m) ({ wk0 with line := 42, T := t })))) 4), .dead, .rowi 24 .u64 ws, .cells 103 (memD c ac0 7), .cells 40 (encW { (SR.x (stepN (m) ({ wk0 with line := 42, T := t }))) with line := 43 }), .rowi 24 .u64 w1])) none := by kernel_rfl
theorem nG7 {Ω : Type} (it : Itr Ω) (K : SE → SS → Option Ω) (c : Cf) (ws w1 w2 : List Int) (t k p way v17 v19 v21 v22 v23 v24 v25 : Int) (q v20 : Bool) (m : Mm) (x : Wk) :
    sxI it E1007 A1007 (.seq K1007_2 K1007_1) 0 ⟨[(0, .agg (encC c)), (1, .d (.ints .u64 ws)), (2, U t), (3, .d (.v (.int .u8 k))), (4, .ptr 0 0), (8, B false), (9, .ptr 5 0), (11, B true), (12, I p), (13, B q), (14, .ptr 9 0), (15, I way), (17, I v17), (19, I v19), (20, B v20), (21, I v21), (22, U v22), (23, U v23), (24, I v24), (25, I v25)], [.cells 26 (encC c), .dead, .dead, .dead, .rowi 24 .u64 m.ws, .cells 79 (memC m.c m.s 4), .dead, .rowi 24 .u64 ws, .cells 103 (memD c ac0 7), .cells 40 (encW x), .rowi 24 .u64 w1, .rowi 24 .u64 w2]⟩ K =
    br (decide (v22 ≥ Cf.l c)) (br (v23 == v22) (br (v25 == 2) (K .ret (SS.mk [(0, .agg [I (Cf.a c), I (Cf.b c), I (Cf.c c), I (Cf.d c), I (Cf.e c), I (Cf.f c), I (Cf.g c), U (Cf.l c)]), (1, .d (DV.ints .u64 ws)), (2, U t), (3, .d (DV.v (Value.int .u8 k))), (4, .ptr 0 0), (8, B (Wk.I x == 0)), (9, .ptr 5 0), (11, B true), (12, I p), (13, B q), (14, .ptr 9 0), (15, I way), (17, I v17), (19, I v19), (20, B v20), (21, I v21), (22, U v22), (23, U v23), (24, I v24), (25, I v25)] [.cells 26 (encC c), .dead, .dead, .dead, .rowi 24 .u64 (Mm.ws m), .cells 79 (memC (Mm.c m) (Mm.s m) 4), .dead, .rowi 24 .u64 ws, .cells 103 (memD c ac0 7), .cells 40 (encW x), .rowi 24 .u64 w1, .rowi 24 .u64 w2])) (K .ret (SS.mk [(0, .agg [I (Cf.a c), I (Cf.b c), I (Cf.c c), I (Cf.d c), I (Cf.e c), I (Cf.f c), I (Cf.g c), U (Cf.l c)]), (1, .d (DV.ints .u64 ws)), (2, U t), (3, .d (DV.v (Value.int .u8 k))), (4, .ptr 0 0), (8, B false), (9, .ptr 5 0), (11, B true), (12, I p), (13, B q), (14, .ptr 9 0), (15, I way), (17, I v17), (19, I v19), (20, B v20), (21, I v21), (22, U v22), (23, U v23), (24, I v24), (25, I v25)] [.cells 26 (encC c), .dead, .dead, .dead, .rowi 24 .u64 (Mm.ws m), .cells 79 (memC (Mm.c m) (Mm.s m) 4), .dead, .rowi 24 .u64 ws, .cells 103 (memD c ac0 7), .cells 40 (encW x), .rowi 24 .u64 w1, .rowi 24 .u64 w2]))) (K .ret (SS.mk [(0, .agg [I (Cf.a c), I (Cf.b c), I (Cf.c c), I (Cf.d c), I (Cf.e c), I (Cf.f c), I (Cf.g c), U (Cf.l c)]), (1, .d (DV.ints .u64 ws)), (2, U t), (3, .d (DV.v (Value.int .u8 k))), (4, .ptr 0 0), (8, B false), (9, .ptr 5 0), (11, B true), (12, I p), (13, B q), (14, .ptr 9 0), (15, I way), (17, I v17), (19, I v19), (20, B v20), (21, I v21), (22, U v22), (23, U v23), (24, I v24), (25, I v25)] [.cells 26 (encC c), .dead, .dead, .dead, .rowi 24 .u64 (Mm.ws m), .cells 79 (memC (Mm.c m) (Mm.s m) 4), .dead, .rowi 24 .u64 ws, .cells 103 (memD c ac0 7), .cells 40 (encW x), .rowi 24 .u64 w1, .rowi 24 .u64 w2]))) (br (v23 == wU (v22 + 1)) (br (v25 == 0) (K .ret (SS.mk [(0, .agg [I (Cf.a c), I (Cf.b c), I (Cf.c c), I (Cf.d c), I (Cf.e c), I (Cf.f c), I (Cf.g c), U (Cf.l c)]), (1, .d (DV.ints .u64 ws)), (2, U t), (3, .d (DV.v (Value.int .u8 k))), (4, .ptr 0 0), (8, B (Wk.I x == IntKind.wrap .i64 (v21 + 1))), (9, .ptr 5 0), (11, B true), (12, I p), (13, B q), (14, .ptr 9 0), (15, I way), (17, I v17), (19, I v19), (20, B v20), (21, I v21), (22, U v22), (23, U v23), (24, I v24), (25, I v25)] [.cells 26 (encC c), .dead, .dead, .dead, .rowi 24 .u64 (Mm.ws m), .cells 79 (memC (Mm.c m) (Mm.s m) 4), .dead, .rowi 24 .u64 ws, .cells 103 (memD c ac0 7), .cells 40 (encW x), .rowi 24 .u64 w1, .rowi 24 .u64 w2])) (K .ret (SS.mk [(0, .agg [I (Cf.a c), I (Cf.b c), I (Cf.c c), I (Cf.d c), I (Cf.e c), I (Cf.f c), I (Cf.g c), U (Cf.l c)]), (1, .d (DV.ints .u64 ws)), (2, U t), (3, .d (DV.v (Value.int .u8 k))), (4, .ptr 0 0), (8, B false), (9, .ptr 5 0), (11, B true), (12, I p), (13, B q), (14, .ptr 9 0), (15, I way), (17, I v17), (19, I v19), (20, B v20), (21, I v21), (22, U v22), (23, U v23), (24, I v24), (25, I v25)] [.cells 26 (encC c), .dead, .dead, .dead, .rowi 24 .u64 (Mm.ws m), .cells 79 (memC (Mm.c m) (Mm.s m) 4), .dead, .rowi 24 .u64 ws, .cells 103 (memD c ac0 7), .cells 40 (encW x), .rowi 24 .u64 w1, .rowi 24 .u64 w2]))) (K .ret (SS.mk [(0, .agg [I (Cf.a c), I (Cf.b c), I (Cf.c c), I (Cf.d c), I (Cf.e c), I (Cf.f c), I (Cf.g c), U (Cf.l c)]), (1, .d (DV.ints .u64 ws)), (2, U t), (3, .d (DV.v (Value.int .u8 k))), (4, .ptr 0 0), (8, B false), (9, .ptr 5 0), (11, B true), (12, I p), (13, B q), (14, .ptr 9 0), (15, I way), (17, I v17), (19, I v19), (20, B v20), (21, I v21), (22, U v22), (23, U v23), (24, I v24), (25, I v25)] [.cells 26 (encC c), .dead, .dead, .dead, .rowi 24 .u64 (Mm.ws m), .cells 79 (memC (Mm.c m) (Mm.s m) 4), .dead, .rowi 24 .u64 ws, .cells 103 (memD c ac0 7), .cells 40 (encW x), .rowi 24 .u64 w1, .rowi 24 .u64 w2]))) := by kernel_rfl
end Go.Sx.Pr

/- Normal forms of coatchecklaw11.EntryChanges: the replacement. -/
namespace Go.Sx.Pr
open Go Go.Sx Go.Sx.Md Go.Proofs
set_option maxRecDepth 100000
theorem nD7 {Ω : Type} (it : Itr Ω) (K : SE → SS → Option Ω) (c : Cf) (ws : List Int) (t k p way : Int) (q : Bool) (m : Mm) (x : Wk) :
    sxI it E1007 A1007 PD7 0 ⟨[(0, .agg (encC c)), (1, .d (.ints .u64 ws)), (2, U t), (3, .d (.v (.int .u8 k))), (4, .ptr 0 0), (8, B false), (9, .ptr 5 0), (11, B true), (12, I p), (13, B q), (14, .ptr 9 0), (15, I way)], [.cells 26 (encC c), .dead, .dead, .dead, .rowi 24 .u64 m.ws, .cells 79 (memC m.c m.s 4), .dead, .rowi 24 .u64 ws, .cells 103 (memD c ac0 7), .cells 40 (encW x)]⟩ K =
    br (okM (m) && okW (x)) (br (fits (List.length (Mm.ws (SR.m (stepN (m) (x))))) 8) (br (u64B (Mm.ws (SR.m (stepN (m) (x)))) && uB t) (br (!way == 1) (K .ret (SS.mk [(0, .agg [I (Cf.a c), I (Cf.b c), I (Cf.c c), I (Cf.d c), I (Cf.e c), I (Cf.f c), I (Cf.g c), U (Cf.l c)]), (1, .d (DV.ints .u64 ws)), (2, U t), (3, .d (DV.v (Value.int .u8 k))), (4, .ptr 0 0), (8, B false), (9, .ptr 5 0), (11, B true), (12, I p), (13, B q), (14, .ptr 9 0), (15, I way), (17, I (SR.way (stepN (m) (x)))), (19, I (Prod.fst (liveE (c) (Mm.ws (SR.m (stepN (m) (x)))) t))), (20, B (Prod.snd (liveE (c) (Mm.ws (SR.m (stepN (m) (x)))) t)))] [.cells 26 (encC c), .dead, .dead, .dead, .rowi 24 .u64 (Mm.ws (SR.m (stepN (m) (x)))), .cells 79 (memC (Mm.c (SR.m (stepN (m) (x)))) (Mm.s (SR.m (stepN (m) (x)))) 4), .dead, .rowi 24 .u64 ws, .cells 103 (memD c ac0 7), .cells 40 (encW (SR.x (stepN (m) (x)))), .rowi 24 .u64 (Mm.ws (SR.m (stepN (m) (x))))])) (br (!SR.way (stepN (m) (x)) == 1) (K .ret (SS.mk [(0, .agg [I (Cf.a c), I (Cf.b c), I (Cf.c c), I (Cf.d c), I (Cf.e c), I (Cf.f c), I (Cf.g c), U (Cf.l c)]), (1, .d (DV.ints .u64 ws)), (2, U t), (3, .d (DV.v (Value.int .u8 k))), (4, .ptr 0 0), (8, B false), (9, .ptr 5 0), (11, B true), (12, I p), (13, B q), (14, .ptr 9 0), (15, I way), (17, I (SR.way (stepN (m) (x)))), (19, I (Prod.fst (liveE (c) (Mm.ws (SR.m (stepN (m) (x)))) t))), (20, B (Prod.snd (liveE (c) (Mm.ws (SR.m (stepN (m) (x)))) t)))] [.cells 26 (encC c), .dead, .dead, .dead, .rowi 24 .u64 (Mm.ws (SR.m (stepN (m) (x)))), .cells 79 (memC (Mm.c (SR.m (stepN (m) (x)))) (Mm.s (SR.m (stepN (m) (x)))) 4), .dead, .rowi 24 .u64 ws, .cells 103 (memD c ac0 7), .cells 40 (encW (SR.x (stepN (m) (x)))), .rowi 24 .u64 (Mm.ws (SR.m (stepN (m) (x))))])) (br (!Wk.B (SR.x (stepN (m) (x))) == 0) (K .ret (SS.mk [(0, .agg [I (Cf.a c), I (Cf.b c), I (Cf.c c), I (Cf.d c), I (Cf.e c), I (Cf.f c), I (Cf.g c), U (Cf.l c)]), (1, .d (DV.ints .u64 ws)), (2, U t), (3, .d (DV.v (Value.int .u8 k))), (4, .ptr 0 0), (8, B false), (9, .ptr 5 0), (11, B true), (12, I p), (13, B q), (14, .ptr 9 0), (15, I way), (17, I (SR.way (stepN (m) (x)))), (19, I (Prod.fst (liveE (c) (Mm.ws (SR.m (stepN (m) (x)))) t))), (20, B (Prod.snd (liveE (c) (Mm.ws (SR.m (stepN (m) (x)))) t)))] [.cells 26 (encC c), .dead, .dead, .dead, .rowi 24 .u64 (Mm.ws (SR.m (stepN (m) (x)))), .cells 79 (memC (Mm.c (SR.m (stepN (m) (x)))) (Mm.s (SR.m (stepN (m) (x)))) 4), .dead, .rowi 24 .u64 ws, .cells 103 (memD c ac0 7), .cells 40 (encW (SR.x (stepN (m) (x)))), .rowi 24 .u64 (Mm.ws (SR.m (stepN (m) (x))))])) (br (!Wk.C (SR.x (stepN (m) (x))) == IntKind.wrap .i64 (p + 1)) (K .ret (SS.mk [(0, .agg [I (Cf.a c), I (Cf.b c), I (Cf.c c), I (Cf.d c), I (Cf.e c), I (Cf.f c), I (Cf.g c), U (Cf.l c)]), (1, .d (DV.ints .u64 ws)), (2, U t), (3, .d (DV.v (Value.int .u8 k))), (4, .ptr 0 0), (8, B false), (9, .ptr 5 0), (11, B true), (12, I p), (13, B q), (14, .ptr 9 0), (15, I way), (17, I (SR.way (stepN (m) (x)))), (19, I (Prod.fst (liveE (c) (Mm.ws (SR.m (stepN (m) (x)))) t))), (20, B (Prod.snd (liveE (c) (Mm.ws (SR.m (stepN (m) (x)))) t)))] [.cells 26 (encC c), .dead, .dead, .dead, .rowi 24 .u64 (Mm.ws (SR.m (stepN (m) (x)))), .cells 79 (memC (Mm.c (SR.m (stepN (m) (x)))) (Mm.s (SR.m (stepN (m) (x)))) 4), .dead, .rowi 24 .u64 ws, .cells 103 (memD c ac0 7), .cells 40 (encW (SR.x (stepN (m) (x)))), .rowi 24 .u64 (Mm.ws (SR.m (stepN (m) (x))))])) (br (!Prod.snd (liveE (c) (Mm.ws (SR.m (stepN (m) (x)))) t)) (K .ret (SS.mk [(0, .agg [I (Cf.a c), I (Cf.b c), I (Cf.c c), I (Cf.d c), I (Cf.e c), I (Cf.f c), I (Cf.g c), U (Cf.l c)]), (1, .d (DV.ints .u64 ws)), (2, U t), (3, .d (DV.v (Value.int .u8 k))), (4, .ptr 0 0), (8, B false), (9, .ptr 5 0), (11, B true), (12, I p), (13, B q), (14, .ptr 9 0), (15, I way), (17, I (SR.way (stepN (m) (x)))), (19, I (Prod.fst (liveE (c) (Mm.ws (SR.m (stepN (m) (x)))) t))), (20, B (Prod.snd (liveE (c) (Mm.ws (SR.m (stepN (m) (x)))) t)))] [.cells 26 (encC c), .dead, .dead, .dead, .rowi 24 .u64 (Mm.ws (SR.m (stepN (m) (x)))), .cells 79 (memC (Mm.c (SR.m (stepN (m) (x)))) (Mm.s (SR.m (stepN (m) (x)))) 4), .dead, .rowi 24 .u64 ws, .cells 103 (memD c ac0 7), .cells 40 (encW (SR.x (stepN (m) (x)))), .rowi 24 .u64 (Mm.ws (SR.m (stepN (m) (x))))])) (br (!Prod.fst (liveE (c) (Mm.ws (SR.m (stepN (m) (x)))) t) == Int.tmod (w64' k) 40) (K .ret (SS.mk [(0, .agg [I (Cf.a c), I (Cf.b c), I (Cf.c c), I (Cf.d c), I (Cf.e c), I (Cf.f c), I (Cf.g c), U (Cf.l c)]), (1, .d (DV.ints .u64 ws)), (2, U t), (3, .d (DV.v (Value.int .u8 k))), (4, .ptr 0 0), (8, B false), (9, .ptr 5 0), (11, B true), (12, I p), (13, B q), (14, .ptr 9 0), (15, I way), (17, I (SR.way (stepN (m) (x)))), (19, I (Prod.fst (liveE (c) (Mm.ws (SR.m (stepN (m) (x)))) t))), (20, B (Prod.snd (liveE (c) (Mm.ws (SR.m (stepN (m) (x)))) t)))] [.cells 26 (encC c), .dead, .dead, .dead, .rowi 24 .u64 (Mm.ws (SR.m (stepN (m) (x)))), .cells 79 (memC (Mm.c (SR.m (stepN (m) (x)))) (Mm.s (SR.m (stepN (m) (x)))) 4), .dead, .rowi 24 .u64 ws, .cells 103 (memD c ac0 7), .cells 40 (encW (SR.x (stepN (m) (x)))), .rowi 24 .u64 (Mm.ws (SR.m (stepN (m) (x))))])) (K .norm (SS.mk [(0, .agg [I (Cf.a c), I (Cf.b c), I (Cf.c c), I (Cf.d c), I (Cf.e c), I (Cf.f c), I (Cf.g c), U (Cf.l c)]), (1, .d (DV.ints .u64 ws)), (2, U t), (3, .d (DV.v (Value.int .u8 k))), (4, .ptr 0 0), (8, B false), (9, .ptr 5 0), (11, B true), (12, I p), (13, B q), (14, .ptr 9 0), (15, I way), (17, I (SR.way (stepN (m) (x)))), (19, I (Prod.fst (liveE (c) (Mm.ws (SR.m (stepN (m) (x)))) t))), (20, B (Prod.snd (liveE (c) (Mm.ws (SR.m (stepN (m) (x)))) t)))] [.cells 26 (encC c), .dead, .dead, .dead, .rowi 24 .u64 (Mm.ws (SR.m (stepN (m) (x)))), .cells 79 (memC (Mm.c (SR.m (stepN (m) (x)))) (Mm.s (SR.m (stepN (m) (x)))) 4), .dead, .rowi 24 .u64 ws, .cells 103 (memD c ac0 7), .cells 40 (encW (SR.x (stepN (m) (x)))), .rowi 24 .u64 (Mm.ws (SR.m (stepN (m) (x))))])))))))) none) none) none := by kernel_rfl
end Go.Sx.Pr

/- Normal forms of coatchecklaw11.EntryChanges: the end of a ticket. -/
namespace Go.Sx.Pr
open Go Go.Sx Go.Sx.Md Go.Proofs
set_option maxRecDepth 100000
theorem nF7 {Ω : Type} (it : Itr Ω) (K : SE → SS → Option Ω) (c : Cf) (ws w1 : List Int) (t k p way v17 v19 : Int) (q v20 : Bool) (m : Mm) (x : Wk) :
    sxI it E1007 A1007 PF7 0 ⟨[(0, .agg (encC c)), (1, .d (.ints .u64 ws)), (2, U t), (3, .d (.v (.int .u8 k))), (4, .ptr 0 0), (8, B false), (9, .ptr 5 0), (11, B true), (12, I p), (13, B q), (14, .ptr 9 0), (15, I way), (17, I v17), (19, I v19), (20, B v20)], [.cells 26 (encC c), .dead, .dead, .dead, .rowi 24 .u64 m.ws, .cells 79 (memC m.c m.s 4), .dead, .rowi 24 .u64 ws, .cells 103 (memD c ac0 7), .cells 40 (encW x), .rowi 24 .u64 w1]⟩ K =
    br (okM (m) && okW (x)) (br (fits (List.length (Mm.ws (SR.m (stepN (m) (x))))) 8) (br (u64B (Mm.ws (SR.m (stepN (m) (x)))) && uB t) (br (uB t) (br (uB (mLoadV (SR.m (stepN (m) (x))) (adr (Mm.c (SR.m (stepN (m) (x)))) 3 (t % 65536 - 1)))) (br (!way == 1) (K .ret (SS.mk [(0, .agg [I (Cf.a c), I (Cf.b c), I (Cf.c c), I (Cf.d c), I (Cf.e c), I (Cf.f c), I (Cf.g c), U (Cf.l c)]), (1, .d (DV.ints .u64 ws)), (2, U t), (3, .d (DV.v (Value.int .u8 k))), (4, .ptr 0 0), (8, B false), (9, .ptr 5 0), (11, B true), (12, I p), (13, B q), (14, .ptr 9 0), (15, I way), (17, I (SR.way (stepN (m) (x)))), (19, I v19), (20, B (Prod.snd (liveE (c) (Mm.ws (SR.m (stepN (m) (x)))) t))), (21, I (t % 65536 - 1)), (22, U (t / 65536)), (23, U (mLoadV (SR.m (stepN (m) (x))) (adr (Mm.c (SR.m (stepN (m) (x)))) 3 (t % 65536 - 1)) / 1048576)), (24, I (mLoadV (SR.m (stepN (m) (x))) (adr (Mm.c (SR.m (stepN (m) (x)))) 3 (t % 65536 - 1)) / 16 % 65536 - 1)), (25, I (mLoadV (SR.m (stepN (m) (x))) (adr (Mm.c (SR.m (stepN (m) (x)))) 3 (t % 65536 - 1)) % 16))] [.cells 26 (encC c), .dead, .dead, .dead, .rowi 24 .u64 (Mm.ws (SR.m (stepN (m) (x)))), .cells 79 (memC (Mm.c (SR.m (stepN (m) (x)))) (Mm.s (SR.m (stepN (m) (x)))) 4), .dead, .rowi 24 .u64 ws, .cells 103 (memD c ac0 7), .cells 40 (encW (SR.x (stepN (m) (x)))), .rowi 24 .u64 w1, .rowi 24 .u64 (Mm.ws (SR.m (stepN (m) (x))))])) (br (!SR.way (stepN (m) (x)) == 1) (K .ret (SS.mk [(0, .agg [I (Cf.a c), I (Cf.b c), I (Cf.c c), I (Cf.d c), I (Cf.e c), I (Cf.f c), I (Cf.g c), U (Cf.l c)]), (1, .d (DV.ints .u64 ws)), (2, U t), (3, .d (DV.v (Value.int .u8 k))), (4, .ptr 0 0), (8, B false), (9, .ptr 5 0), (11, B true), (12, I p), (13, B q), (14, .ptr 9 0), (15, I way), (17, I (SR.way (stepN (m) (x)))), (19, I v19), (20, B (Prod.snd (liveE (c) (Mm.ws (SR.m (stepN (m) (x)))) t))), (21, I (t % 65536 - 1)), (22, U (t / 65536)), (23, U (mLoadV (SR.m (stepN (m) (x))) (adr (Mm.c (SR.m (stepN (m) (x)))) 3 (t % 65536 - 1)) / 1048576)), (24, I (mLoadV (SR.m (stepN (m) (x))) (adr (Mm.c (SR.m (stepN (m) (x)))) 3 (t % 65536 - 1)) / 16 % 65536 - 1)), (25, I (mLoadV (SR.m (stepN (m) (x))) (adr (Mm.c (SR.m (stepN (m) (x)))) 3 (t % 65536 - 1)) % 16))] [.cells 26 (encC c), .dead, .dead, .dead, .rowi 24 .u64 (Mm.ws (SR.m (stepN (m) (x)))), .cells 79 (memC (Mm.c (SR.m (stepN (m) (x)))) (Mm.s (SR.m (stepN (m) (x)))) 4), .dead, .rowi 24 .u64 ws, .cells 103 (memD c ac0 7), .cells 40 (encW (SR.x (stepN (m) (x)))), .rowi 24 .u64 w1, .rowi 24 .u64 (Mm.ws (SR.m (stepN (m) (x))))])) (br (Prod.snd (liveE (c) (Mm.ws (SR.m (stepN (m) (x)))) t)) (K .ret (SS.mk [(0, .agg [I (Cf.a c), I (Cf.b c), I (Cf.c c), I (Cf.d c), I (Cf.e c), I (Cf.f c), I (Cf.g c), U (Cf.l c)]), (1, .d (DV.ints .u64 ws)), (2, U t), (3, .d (DV.v (Value.int .u8 k))), (4, .ptr 0 0), (8, B false), (9, .ptr 5 0), (11, B true), (12, I p), (13, B q), (14, .ptr 9 0), (15, I way), (17, I (SR.way (stepN (m) (x)))), (19, I v19), (20, B (Prod.snd (liveE (c) (Mm.ws (SR.m (stepN (m) (x)))) t))), (21, I (t % 65536 - 1)), (22, U (t / 65536)), (23, U (mLoadV (SR.m (stepN (m) (x))) (adr (Mm.c (SR.m (stepN (m) (x)))) 3 (t % 65536 - 1)) / 1048576)), (24, I (mLoadV (SR.m (stepN (m) (x))) (adr (Mm.c (SR.m (stepN (m) (x)))) 3 (t % 65536 - 1)) / 16 % 65536 - 1)), (25, I (mLoadV (SR.m (stepN (m) (x))) (adr (Mm.c (SR.m (stepN (m) (x)))) 3 (t % 65536 - 1)) % 16))] [.cells 26 (encC c), .dead, .dead, .dead, .rowi 24 .u64 (Mm.ws (SR.m (stepN (m) (x)))), .cells 79 (memC (Mm.c (SR.m (stepN (m) (x)))) (Mm.s (SR.m (stepN (m) (x)))) 4), .dead, .rowi 24 .u64 ws, .cells 103 (memD c ac0 7), .cells 40 (encW (SR.x (stepN (m) (x)))), .rowi 24 .u64 w1, .rowi 24 .u64 (Mm.ws (SR.m (stepN (m) (x))))])) (br (!mLoadV (SR.m (stepN (m) (x))) (adr (Mm.c (SR.m (stepN (m) (x)))) 3 (t % 65536 - 1)) / 16 % 65536 - 1 == -1) (K .ret (SS.mk [(0, .agg [I (Cf.a c), I (Cf.b c), I (Cf.c c), I (Cf.d c), I (Cf.e c), I (Cf.f c), I (Cf.g c), U (Cf.l c)]), (1, .d (DV.ints .u64 ws)), (2, U t), (3, .d (DV.v (Value.int .u8 k))), (4, .ptr 0 0), (8, B false), (9, .ptr 5 0), (11, B true), (12, I p), (13, B q), (14, .ptr 9 0), (15, I way), (17, I (SR.way (stepN (m) (x)))), (19, I v19), (20, B (Prod.snd (liveE (c) (Mm.ws (SR.m (stepN (m) (x)))) t))), (21, I (t % 65536 - 1)), (22, U (t / 65536)), (23, U (mLoadV (SR.m (stepN (m) (x))) (adr (Mm.c (SR.m (stepN (m) (x)))) 3 (t % 65536 - 1)) / 1048576)), (24, I (mLoadV (SR.m (stepN (m) (x))) (adr (Mm.c (SR.m (stepN (m) (x)))) 3 (t % 65536 - 1)) / 16 % 65536 - 1)), (25, I (mLoadV (SR.m (stepN (m) (x))) (adr (Mm.c (SR.m (stepN (m) (x)))) 3 (t % 65536 - 1)) % 16))] [.cells 26 (encC c), .dead, .dead, .dead, .rowi 24 .u64 (Mm.ws (SR.m (stepN (m) (x)))), .cells 79 (memC (Mm.c (SR.m (stepN (m) (x)))) (Mm.s (SR.m (stepN (m) (x)))) 4), .dead, .rowi 24 .u64 ws, .cells 103 (memD c ac0 7), .cells 40 (encW (SR.x (stepN (m) (x)))), .rowi 24 .u64 w1, .rowi 24 .u64 (Mm.ws (SR.m (stepN (m) (x))))])) (K .norm (SS.mk [(0, .agg [I (Cf.a c), I (Cf.b c), I (Cf.c c), I (Cf.d c), I (Cf.e c), I (Cf.f c), I (Cf.g c), U (Cf.l c)]), (1, .d (DV.ints .u64 ws)), (2, U t), (3, .d (DV.v (Value.int .u8 k))), (4, .ptr 0 0), (8, B false), (9, .ptr 5 0), (11, B true), (12, I p), (13, B q), (14, .ptr 9 0), (15, I way), (17, I (SR.way (stepN (m) (x)))), (19, I v19), (20, B (Prod.snd (liveE (c) (Mm.ws (SR.m (stepN (m) (x)))) t))), (21, I (t % 65536 - 1)), (22, U (t / 65536)), (23, U (mLoadV (SR.m (stepN (m) (x))) (adr (Mm.c (SR.m (stepN (m) (x)))) 3 (t % 65536 - 1)) / 1048576)), (24, I (mLoadV (SR.m (stepN (m) (x))) (adr (Mm.c (SR.m (stepN (m) (x)))) 3 (t % 65536 - 1)) / 16 % 65536 - 1)), (25, I (mLoadV (SR.m (stepN (m) (x))) (adr (Mm.c (SR.m (stepN (m) (x)))) 3 (t % 65536 - 1)) % 16))] [.cells 26 (encC c), .dead, .dead, .dead, .rowi 24 .u64 (Mm.ws (SR.m (stepN (m) (x)))), .cells 79 (memC (Mm.c (SR.m (stepN (m) (x)))) (Mm.s (SR.m (stepN (m) (x)))) 4), .dead, .rowi 24 .u64 ws, .cells 103 (memD c ac0 7), .cells 40 (encW (SR.x (stepN (m) (x)))), .rowi 24 .u64 w1, .rowi 24 .u64 (Mm.ws (SR.m (stepN (m) (x))))])))))) none) none) none) none) none := by kernel_rfl
end Go.Sx.Pr

/- EntryChanges: the steps of an entry's life without interference, in the pure model. -/
namespace Go.Sx.Pr
open Go Go.Sx Go.Sx.Md Go.Proofs
set_option maxRecDepth 100000

section
variable {m : Mm} {x : Wk} {c : Cf} {t : Int}
theorem sN_look (h : x.line = 42 ∨ x.line = 44 ∨ x.line = 46 ∨ x.line = 60) : stepN m x = lookN m x := by
  unfold stepN
  rw [if_neg (by omega), if_neg (by omega), if_neg (by omega), if_pos h]
theorem sN_live (h : x.line = 42 ∨ x.line = 44 ∨ x.line = 46 ∨ x.line = 60) (hl : liveV (mLoadV m (adr m.c 3 (tE x.T))) (tG x.T) = true) :
    stepN m x = ⟨mLoad m (adr m.c 3 (tE x.T)), { x with line := 0, V := mLoadV m (adr m.c 3 (tE x.T)), C := mLoadV m (adr m.c 3 (tE x.T)) / 16 % 65536 }, 1, true⟩ := by
  rw [sN_look h]; unfold lookN; rw [hl, cond_true]
theorem sN_dead (h : x.line = 42 ∨ x.line = 44 ∨ x.line = 46 ∨ x.line = 60) (hl : liveV (mLoadV m (adr m.c 3 (tE x.T))) (tG x.T) = false) :
    stepN m x = ⟨mLoad m (adr m.c 3 (tE x.T)), { x with line := 0 }, 2, true⟩ := by
  rw [sN_look h]; unfold lookN; rw [hl, cond_false]
theorem sN_43 (h : x.line = 43) (hb : mCasB m (adr m.c 3 (tE x.T)) x.V = true) :
    stepN m x = ⟨mCas m (adr m.c 3 (tE x.T)) x.V (nextV m.c x.T), { x with I := bif decide (m.c.l ≤ tG x.T) then 0 else x.T % 65536, line := 0 }, 1, true⟩ := by
  unfold stepN
  rw [if_neg (by omega), if_neg (by omega), if_neg (by omega), if_neg (by omega), if_pos h, hb, cond_true]
theorem sN_45 (h : x.line = 45) (hb : mCasB m (adr m.c 3 (tE x.T)) x.V = true) :
    stepN m x = ⟨mCas m (adr m.c 3 (tE x.T)) x.V (pEntry (tG x.T) (w64' (x.B - 1)) 1), { x with B := 0, line := 0 }, 1, true⟩ := by
  unfold stepN
  rw [if_neg (by omega), if_neg (by omega), if_neg (by omega), if_neg (by omega), if_neg (by omega), if_pos h, hb, cond_true]

/-- A memory of this config, with words of the right count. -/
structure MC (c : Cf) (m : Mm) : Prop where
  ok : okM m = true
  hc : m.c = c
  sz : (m.ws.length : Int) = szC c
theorem MC.chk (h : MC c m) : chkC c = 0 := by
  have := h.ok
  simp only [okM, Bool.and_eq_true, beq_iff_eq] at this
  rw [← h.hc]; exact this.1
theorem MC.at (h : MC c m) (hg : goodV c t = true) : Mm.ok m (adr c 3 (tE t)) = true := by
  obtain ⟨g1, g2, _, _⟩ := goodV_at hg
  exact inBE h.chk h.sz g1 g2
theorem MC.load (h : MC c m) (a : Int) : MC c (mLoad m a) := ⟨h.ok, h.hc, h.sz⟩
theorem MC.cas (h : MC c m) (a v w : Int) (hw : uB w = true) : MC c (mCas m a v w) := ⟨okM_cas h.ok hw, h.hc, by rw [show (mCas m a v w).ws = mSet m (mCasB m a v) a w from rfl, len_mSet]; exact h.sz⟩
theorem MC.live (h : MC c m) (hg : goodV c t = true) : liveE c m.ws t = bif liveV (mLoadV m (adr c 3 (tE t))) (tG t) then (mLoadV m (adr c 3 (tE t)) / 16 % 65536 - 1, true) else (-1, false) := by
  have e : mLoadV m (adr c 3 (tE t)) = m.ws.getD (adr c 3 (tE t)).toNat 0 := by unfold mLoadV; rw [h.at hg, cond_true]; rfl
  rw [liveE_at h.chk h.sz hg, e]
theorem casB_self {a : Int} (h : Mm.ok m a = true) : mCasB m a (mLoadV m a) = true := (casB_iff h).2 rfl
theorem tG_lt (h : chkC c = 0) (hg : goodV c t = true) : 1 ≤ tG t ∧ tG t ≤ c.l ∧ c.l ≤ 1048576 := by
  obtain ⟨_, _, g3, g4⟩ := goodV_at hg
  obtain ⟨_, _, _, _, _, _, _, _, l2⟩ := chk_zero h
  exact ⟨g3, g4, l2⟩
theorem w_new {b : Int} (hg : 1 ≤ tG t ∧ tG t ≤ 1048576) (hb : 0 ≤ b ∧ b ≤ 39) : liveV (pEntry (tG t) b 1) (tG t) = true ∧ pEntry (tG t) b 1 / 16 % 65536 - 1 = b := by
  unfold liveV pEntry
  simp only [Bool.and_eq_true, beq_iff_eq]
  generalize tG t = g at *
  refine ⟨⟨?_, ?_⟩, ?_⟩ <;> omega
theorem w_next (hg : 1 ≤ tG t ∧ tG t ≤ 1048576) : liveV (nextV c t) (tG t) = false ∧ nextV c t / 16 % 65536 - 1 = -1 ∧ (c.l ≤ tG t → nextV c t / 1048576 = tG t ∧ nextV c t % 16 = 2) ∧ (¬ c.l ≤ tG t → nextV c t / 1048576 = tG t + 1 ∧ nextV c t % 16 = 0) := by
  have n1 : (nextV c t % 16 = 2 ∨ nextV c t % 16 = 0) ∧ nextV c t / 16 % 65536 - 1 = -1 ∧ (c.l ≤ tG t → nextV c t / 1048576 = tG t ∧ nextV c t % 16 = 2) ∧ (¬ c.l ≤ tG t → nextV c t / 1048576 = tG t + 1 ∧ nextV c t % 16 = 0) := by
    unfold nextV
    by_cases h : c.l ≤ tG t
    · rw [decide_eq_true h, cond_true]
      unfold pEntry
      generalize tG t = g at *
      refine ⟨Or.inl (by omega), by omega, fun _ => ⟨by omega, by omega⟩, fun q => absurd h q⟩
    · rw [decide_eq_false h, cond_false]
      unfold pEntry
      generalize tG t = g at *
      refine ⟨Or.inr (by omega), by omega, fun q => absurd q h, fun _ => ⟨by omega, by omega⟩⟩
  refine ⟨?_, n1.2⟩
  unfold liveV
  rcases n1.1 with e | e <;> rw [e] <;> rfl
theorem uB_nextV : uB (nextV c t) = true := by
  unfold nextV
  cases decide (c.l ≤ tG t) <;> exact uB_pEntry
theorem blk_u8 {k : Int} (h0 : 0 ≤ k) (h1 : k ≤ 255) : IntKind.wrap .i64 (Int.tmod (w64' k) 40 + 1) = k % 40 + 1 ∧ Int.tmod (w64' k) 40 = k % 40 := by
  rw [w64_id (by omega) (by omega), Int.tmod_eq_emod_of_nonneg h0]
  refine ⟨?_, rfl⟩
  exact w64_id (by omega) (by omega)
end
end Go.Sx.Pr

/- EntryChanges: the law answers true on symbolic arguments. -/
namespace Go.Sx.Pr
open Go Go.Sx Go.Sx.Md Go.Proofs
set_option maxRecDepth 100000

theorem tru_of {a b : Option (SV × SH)} (h : a = b) (hb : Tru b) : Tru a := h ▸ hb
theorem tru_nb {x y : Int} {a b : Option (SV × SH)} (h : x = y) (hb : Tru b) : Tru (br (!x == y) a b) := by
  rw [show (!x == y) = false by simp [h], br_f]; exact hb
theorem ksN {Ω : Type} {it : Itr Ω} {E : Env Ω} {A : Ann} (b : CC) (n : Nat) (s : SS) (k : SE → SS → Option Ω) : kseq it E A b n k .norm s = sxI it E A b n s k := rfl
theorem ksR {Ω : Type} {it : Itr Ω} {E : Env Ω} {A : Ann} (b : CC) (n : Nat) (s : SS) (k : SE → SS → Option Ω) : kseq it E A b n k .ret s = k .ret s := rfl
theorem okW_t {t q : Int} (ht : uB t = true) : okW { wk0 with line := q, T := t } = true := by
  simp only [okW, wk0, uB_zero, ht, Bool.and_self]
theorem okW_tv {t v q b d : Int} (ht : uB t = true) (hv : uB v = true) : okW { wk0 with line := q, B := b, V := v, C := d, T := t } = true := by
  simp only [okW, wk0, uB_zero, ht, hv, Bool.and_self]

theorem fnE {Ω : Type} {it : Itr Ω} {E : Env Ω} {A : Ann} {f : CF} {args : List SV} {h : SH} {k : SV → SH → Option Ω} (hn : Nat.beq args.length f.np = true) : sxFnI it E A f args h k = sxI it E A f.code 0 ⟨number args 0, h⟩ (kfn f k) := by
  unfold sxFnI; rw [hn]; rfl
theorem num7 {c : Cf} {ws : List Int} {t k : Int} : number [.agg (encC c), .d (.ints .u64 ws), U t, .d (.v (.int .u8 k))] 0 = [(0, .agg (encC c)), (1, .d (.ints .u64 ws)), (2, U t), (3, .d (.v (.int .u8 k)))] := rfl

theorem main7 {c : Cf} {ws : List Int} {t k : Int} (hw : u64B ws = true) (ht : uB t = true) (hk : 0 ≤ k ∧ k ≤ 255) :
    Tru (sxFn E1007 A1007 C1007 [.agg (encC c), .d (.ints .u64 ws), U t, .d (.v (.int .u8 k))] [] KS) := by
  rw [← sxFnI_eq]
  rw [fnE (f := C1007) (args := [.agg (encC c), .d (.ints .u64 ws), U t, .d (.v (.int .u8 k))]) (show Nat.beq 4 C1007.np = true from rfl), num7, code7, nA7]
  cases hB : bothV c ws with
  | false => rw [br_f]; simp only [ksR]; exact tru_ret
  | true =>
  rw [br_t, ksN]
  simp only [bothV, Bool.and_eq_true, beq_iff_eq, decide_eq_true_eq] at hB
  obtain ⟨h0, _, _, h4, hs⟩ := hB
  obtain ⟨m0, hm0⟩ : ∃ m : Mm, m = ⟨c, ac0, ws⟩ := ⟨_, rfl⟩
  have M0 : MC c m0 := by subst hm0; exact ⟨by simp only [okM, h0, hw, Bool.and_eq_true, beq_iff_eq, and_self], rfl, hs⟩
  have hws : ws = m0.ws := by rw [hm0]
  refine tru_of (nB7 itB _ c ws t k ⟨c, ac0, ws⟩) ?_
  rw [← hm0]
  rw [hw, ht, Bool.and_self, br_t, M0.ok, okW_t ht, Bool.and_self, br_t, ksN]
  refine tru_of (nB7r itB _ c ws t k (liveE c ws t).1 _ (liveE c ws t).2 (stepN m0 { wk0 with line := 60, T := t }).m (stepN m0 { wk0 with line := 60, T := t }).x) ?_
  rw [ht, br_t]
  cases hg : goodV c t with
  | false => rw [Bool.not_false, br_t]; simp only [ksR]; exact tru_ret
  | true =>
  rw [Bool.not_true, br_f]
  have hL : liveE c ws t = bif liveV (mLoadV m0 (adr c 3 (tE t))) (tG t) then (mLoadV m0 (adr c 3 (tE t)) / 16 % 65536 - 1, true) else (-1, false) := by
    rw [hws]; exact M0.live hg
  have hgl := tG_lt h0 hg
  obtain ⟨L, hLd⟩ : ∃ L, L = mLoadV m0 (adr c 3 (tE t)) := ⟨_, rfl⟩
  rw [← hLd] at hL
  cases hv : liveV L (tG t) with
  | false =>
    rw [hv, cond_false] at hL
    have s60 := sN_dead (m := m0) (x := { wk0 with line := 60, T := t }) (by simp) (by show liveV (mLoadV m0 (adr m0.c 3 (tE t))) (tG t) = false; rw [M0.hc, ← hLd]; exact hv)
    rw [hL, s60]
    rw [Bool.not_false, br_t]
    simp only [ksR]
    exact tru_ret
  | true =>
    rw [hv, cond_true] at hL
    have s60 := sN_live (m := m0) (x := { wk0 with line := 60, T := t }) (by simp) (by show liveV (mLoadV m0 (adr m0.c 3 (tE t))) (tG t) = true; rw [M0.hc, ← hLd]; exact hv)
    rw [show (({ wk0 with line := 60, T := t } : Wk)).T = t from rfl, M0.hc, ← hLd] at s60
    rw [hL, s60]
    have hLb : uB L = true := by rw [hLd]; exact uB_load (okM_u M0.ok)
    have hC : IntKind.wrap .i64 (L / 16 % 65536 - 1 + 1) = L / 16 % 65536 := by rw [IntKind.wrap_i64]; omega
    simp only [Bool.not_true, br_f]
    refine tru_nb rfl (tru_nb hC.symm ?_)
    rw [ksN]
    -- line 44
    obtain ⟨m1, hm1⟩ : ∃ m1, m1 = mLoad m0 (adr c 3 (tE t)) := ⟨_, rfl⟩
    have M1 : MC c m1 := hm1 ▸ M0.load _
    have l1 : mLoadV m1 (adr c 3 (tE t)) = L := by rw [hm1, hLd]; rfl
    rw [← hm1]
    refine tru_of (nC7 itB _ c ws t k _ _ _ m1 _) ?_
    have s44 := sN_live (m := m1) (x := { wk0 with line := 44, T := t }) (by simp) (by show liveV (mLoadV m1 (adr m1.c 3 (tE t))) (tG t) = true; rw [M1.hc, l1]; exact hv)
    rw [show (({ wk0 with line := 44, T := t } : Wk)).T = t from rfl, M1.hc, l1] at s44
    obtain ⟨m2, hm2⟩ : ∃ m2, m2 = mLoad m1 (adr c 3 (tE t)) := ⟨_, rfl⟩
    have M2 : MC c m2 := hm2 ▸ M1.load _
    have l2 : mLoadV m2 (adr c 3 (tE t)) = L := by rw [hm2]; exact l1
    rw [M1.ok, okW_t ht, Bool.and_self, br_t, ksN, s44, ← hm2, (blk_u8 hk.1 hk.2).1]
    -- line 45
    obtain ⟨x2, hx2⟩ : ∃ x : Wk, x = { wk0 with line := 45, B := k % 40 + 1, V := L, C := L / 16 % 65536, T := t } := ⟨_, rfl⟩
    refine tru_of (nD7 itB _ c ws t k _ 1 _ m2 { wk0 with line := 45, B := k % 40 + 1, V := L, C := L / 16 % 65536, T := t }) ?_
    rw [← hx2]
    have wb : w64' (x2.B - 1) = k % 40 := by rw [hx2]; show w64' (k % 40 + 1 - 1) = k % 40; exact (w64_id (by omega) (by omega)).trans (by omega)
    have s45 := sN_45 (m := m2) (x := x2) (by rw [hx2]) (by rw [hx2]; show mCasB m2 (adr m2.c 3 (tE t)) L = true; rw [M2.hc, ← l2]; exact casB_self (M2.at hg))
    rw [wb, show x2.T = t by rw [hx2], show x2.V = L by rw [hx2], M2.hc] at s45
    obtain ⟨b, hb⟩ : ∃ b, b = k % 40 := ⟨_, rfl⟩
    have hb2 : 0 ≤ b ∧ b ≤ 39 := by omega
    obtain ⟨W, hW⟩ : ∃ W, W = pEntry (tG t) b 1 := ⟨_, rfl⟩
    have hWn := w_new (t := t) ⟨hgl.1, by omega⟩ hb2
    rw [← hW] at hWn
    rw [← hb, ← hW] at s45
    obtain ⟨m3, hm3⟩ : ∃ m3, m3 = mCas m2 (adr c 3 (tE t)) L W := ⟨_, rfl⟩
    have M3 : MC c m3 := hm3 ▸ M2.cas _ _ _ (by rw [hW]; exact uB_pEntry)
    have l3 : mLoadV m3 (adr c 3 (tE t)) = W := by rw [hm3, ld_cas, if_pos ⟨by rw [← l2]; exact casB_self (M2.at hg), rfl⟩]
    have n3 : m3.ws.length ≤ 400 := by
      have e1 := M3.sz; omega
    rw [← hm3] at s45
    have hx2C : x2.C = L / 16 % 65536 := by rw [hx2]
    have E3 : liveE c m3.ws t = (b, true) := by rw [M3.live hg, l3, hWn.1, cond_true, hWn.2]
    rw [M2.ok, show okW x2 = true by rw [hx2]; exact okW_tv ht hLb, Bool.and_self, br_t, s45]
    rw [show fits m3.ws.length 8 = true from decide_eq_true (by omega), br_t, okM_u M3.ok, ht, Bool.and_self, br_t]
    refine tru_nb rfl (tru_nb rfl (tru_nb rfl (tru_nb (hx2C.trans hC.symm) ?_)))
    rw [E3, Bool.not_true, br_f]
    refine tru_nb (hb.trans (blk_u8 hk.1 hk.2).2.symm) ?_
    rw [ksN]
    -- line 42
    refine tru_of (nE7 itB _ c ws m3.ws t k _ 1 1 b _ true m3 _) ?_
    have s42 := sN_live (m := m3) (x := { wk0 with line := 42, T := t }) (by simp) (by show liveV (mLoadV m3 (adr m3.c 3 (tE t))) (tG t) = true; rw [M3.hc, l3]; exact hWn.1)
    rw [show (({ wk0 with line := 42, T := t } : Wk)).T = t from rfl, M3.hc, l3] at s42
    obtain ⟨m4, hm4⟩ : ∃ m4, m4 = mLoad m3 (adr c 3 (tE t)) := ⟨_, rfl⟩
    have M4 : MC c m4 := hm4 ▸ M3.load _
    have l4 : mLoadV m4 (adr c 3 (tE t)) = W := by rw [hm4]; exact l3
    rw [M3.ok, okW_t ht, Bool.and_self, br_t, ksN, s42, ← hm4]
    -- line 43
    obtain ⟨x4, hx4⟩ : ∃ x : Wk, x = { wk0 with line := 43, V := W, C := W / 16 % 65536, T := t } := ⟨_, rfl⟩
    refine tru_of (nF7 itB _ c ws m3.ws t k _ 1 1 b _ true m4 { wk0 with line := 43, V := W, C := W / 16 % 65536, T := t }) ?_
    rw [← hx4]
    have s43 := sN_43 (m := m4) (x := x4) (by rw [hx4]) (by rw [hx4]; show mCasB m4 (adr m4.c 3 (tE t)) W = true; rw [M4.hc, ← l4]; exact casB_self (M4.at hg))
    rw [show x4.T = t by rw [hx4], show x4.V = W by rw [hx4], M4.hc] at s43
    obtain ⟨N, hN⟩ : ∃ N, N = nextV c t := ⟨_, rfl⟩
    have hNn := w_next (c := c) (t := t) ⟨hgl.1, by omega⟩
    rw [← hN] at hNn
    rw [← hN] at s43
    obtain ⟨m5, hm5⟩ : ∃ m5, m5 = mCas m4 (adr c 3 (tE t)) W N := ⟨_, rfl⟩
    have hNb : uB N = true := by rw [hN]; exact uB_nextV
    have M5 : MC c m5 := hm5 ▸ M4.cas _ _ _ hNb
    have l5 : mLoadV m5 (adr c 3 (tE t)) = N := by rw [hm5, ld_cas, if_pos ⟨by rw [← l4]; exact casB_self (M4.at hg), rfl⟩]
    have l5' : mLoadV m5 (adr m5.c 3 (t % 65536 - 1)) = N := by rw [M5.hc]; exact l5
    have n5 : m5.ws.length ≤ 400 := by
      have e1 := M5.sz; omega
    rw [← hm5] at s43
    have E5 : liveE c m5.ws t = (-1, false) := by rw [M5.live hg, l5, hNn.1, cond_false]
    rw [M4.ok, show okW x4 = true by rw [hx4]; exact okW_tv (b := 0) ht (by rw [hW]; exact uB_pEntry), Bool.and_self, br_t, s43]
    dsimp only
    rw [show fits m5.ws.length 8 = true from decide_eq_true (by omega), br_t, okM_u M5.ok, ht, Bool.and_self, br_t, br_t, l5', hNb, br_t]
    refine tru_nb rfl (tru_nb rfl ?_)
    rw [E5, br_f]
    refine tru_nb hNn.2.1 ?_
    rw [ksN]
    refine tru_of (nG7 itB _ c ws m3.ws m5.ws t k (L / 16 % 65536 - 1) 1 1 b (t % 65536 - 1) (t / 65536) (N / 1048576) (N / 16 % 65536 - 1) (N % 16) true false m5 { x4 with I := bif decide (c.l ≤ tG t) then 0 else t % 65536, line := 0, T := t, V := W }) ?_
    by_cases hlast : c.l ≤ tG t
    · obtain ⟨q1, q2⟩ := hNn.2.2.1 hlast
      rw [decide_eq_true (show t / 65536 ≥ c.l from hlast), br_t, show (N / 1048576 == t / 65536) = true from beq_iff_eq.2 q1, br_t, q2, show ((2 : Int) == 2) = true from rfl, br_t]
      exact tru_ret
    · obtain ⟨q1, q2⟩ := hNn.2.2.2 hlast
      rw [decide_eq_false (show ¬ t / 65536 ≥ c.l from hlast), br_f, show (N / 1048576 == wU (t / 65536 + 1)) = true from beq_iff_eq.2 (by rw [wU_id (show 0 ≤ tG t + 1 by omega) (show tG t + 1 < 18446744073709551616 by omega)]; exact q1), br_t, q2, show ((0 : Int) == 0) = true from rfl, br_t]
      have hI : (t % 65536 == IntKind.wrap .i64 (t % 65536 - 1 + 1)) = true := beq_iff_eq.2 (by rw [IntKind.wrap_i64]; omega)
      show Tru (KS (B (t % 65536 == IntKind.wrap .i64 (t % 65536 - 1 + 1))) _)
      rw [hI]
      exact tru_ret
end Go.Sx.Pr

/- A worker's state as an argument of a law. -/
namespace Go.Sx.Pr
open Go Go.Sx Go.Sx.Md Go.Proofs Go.ChangeShapes Go.WideShapes Go.ChangeAt Go.RowKit
set_option maxRecDepth 100000

theorem uB_wf {x : Int} (h : (Lit.int .u64 x).wf = true) : uB x = true := uB_iff.2 (u64_wf h)

section
variable {H : Type} {enc : TypeId × Value → H} {w : World}
end
end Go.Sx.Pr

/- A list of bytes as an argument of a law. -/
namespace Go.Sx.Pr
open Go Go.Sx Go.Proofs Go.ChangeShapes Go.WideShapes Go.ChangeAt Go.RowKit
set_option maxRecDepth 100000
theorem u8_wf {x : Int} (h : (Lit.int .u8 x).wf = true) : 0 ≤ x ∧ x ≤ 255 := by
  simp only [Lit.wf, Bool.and_eq_true, IntKind.min, IntKind.max, IntKind.signed, IntKind.bits] at h
  simpa using h
section
variable {H : Type} {enc : TypeId × Value → H} {w : World}
end
end Go.Sx.Pr
