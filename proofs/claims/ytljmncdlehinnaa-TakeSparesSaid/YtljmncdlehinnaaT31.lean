/- The contract of memory.New. -/
import Derived.Test.YtljmncdlehinnaaT0
import Derived.Test.YtljmncdlehinnaaR9
import Derived.Test.YtljmncdlehinnaaRows
import Derived.KernelRfl
import Derived.Test.YtljmncdlehinnaaR9
import Derived.Test.YtljmncdlehinnaaT0
import Derived.Test.YtljmncdlehinnaaT0
import Derived.Lib.AppendZeros
import Derived.Lib.Walk
set_option linter.all false
set_option linter.unusedVariables false
set_option linter.unusedSimpArgs false
set_option linter.unnecessarySimpa false
namespace Go.Sx.Pr
open Go Go.Sx Go.Sx.Md Go.Proofs
set_option maxRecDepth 100000

theorem n34 {Ω : Type} (it : Itr Ω) (K : SV → SH → Option Ω) (c : Cf) :
    sxFnI it E34 A34 C34 [.agg (encC c)] [] K =
    br (!chkC c == 0) (br (!chkC c == 0) (br (!chkC c == 0) (K (.tup [.d (DV.v (Value.pointer none)), I (chkC c)]) [.cells 26 (encC c)]) (K (.tup [.ptr 4 0, I 0]) [.cells 26 (encC c), .dead, .dead, .rowi 24 .u64 [], .cells 79 [I 0, I 0, I 0, I 0, I 0, I 0, I 0, U 0, I 0, I 0, U 0, U 0, U 0, .own 3]])) (br (!0 == szC c) (K (.tup [.d (DV.v (Value.pointer none)), I 3]) [.cells 26 (encC c)]) (K (.tup [.ptr 4 0, I 0]) [.cells 26 (encC c), .dead, .dead, .rowi 24 .u64 [], .cells 79 (memC c ac0 3)]))) (br (!chkC c == 0) (br (!chkC c == 0) (K (.tup [.d (DV.v (Value.pointer none)), I (chkC c)]) [.cells 26 (encC c), .dead, .dead, .rowi 24 .u64 (fl (sizeN (Int.toNat (Cf.a c)) (Int.toNat (Cf.b c)) (Int.toNat (Cf.c c)) (Int.toNat (Cf.d c)) (Int.toNat (Cf.e c))) (3 + Int.toNat (Cf.a c) + Int.toNat (Cf.b c)) (Int.toNat (Cf.e c)) (Int.toNat (Cf.e c)))]) (br (! (↑ (List.length (fl (sizeN (Int.toNat (Cf.a c)) (Int.toNat (Cf.b c)) (Int.toNat (Cf.c c)) (Int.toNat (Cf.d c)) (Int.toNat (Cf.e c))) (3 + Int.toNat (Cf.a c) + Int.toNat (Cf.b c)) (Int.toNat (Cf.e c)) (Int.toNat (Cf.e c)))) : Int) == 0) (K (.tup [.d (DV.v (Value.pointer none)), I 3]) [.cells 26 (encC c), .dead, .dead, .rowi 24 .u64 (fl (sizeN (Int.toNat (Cf.a c)) (Int.toNat (Cf.b c)) (Int.toNat (Cf.c c)) (Int.toNat (Cf.d c)) (Int.toNat (Cf.e c))) (3 + Int.toNat (Cf.a c) + Int.toNat (Cf.b c)) (Int.toNat (Cf.e c)) (Int.toNat (Cf.e c)))]) (br (fits (List.length (fl (sizeN (Int.toNat (Cf.a c)) (Int.toNat (Cf.b c)) (Int.toNat (Cf.c c)) (Int.toNat (Cf.d c)) (Int.toNat (Cf.e c))) (3 + Int.toNat (Cf.a c) + Int.toNat (Cf.b c)) (Int.toNat (Cf.e c)) (Int.toNat (Cf.e c)))) 8) (K (.tup [.ptr 7 0, I 0]) [.cells 26 (encC c), .dead, .dead, .rowi 24 .u64 (fl (sizeN (Int.toNat (Cf.a c)) (Int.toNat (Cf.b c)) (Int.toNat (Cf.c c)) (Int.toNat (Cf.d c)) (Int.toNat (Cf.e c))) (3 + Int.toNat (Cf.a c) + Int.toNat (Cf.b c)) (Int.toNat (Cf.e c)) (Int.toNat (Cf.e c))), .dead, .dead, .rowi 24 .u64 (fl (sizeN (Int.toNat (Cf.a c)) (Int.toNat (Cf.b c)) (Int.toNat (Cf.c c)) (Int.toNat (Cf.d c)) (Int.toNat (Cf.e c))) (3 + Int.toNat (Cf.a c) + Int.toNat (Cf.b c)) (Int.toNat (Cf.e c)) (Int.toNat (Cf.e c))), .cells 79 [I 0, I 0, I 0, I 0, I 0, I 0, I 0, U 0, I 0, I 0, U 0, U 0, U 0, .own 6]]) none))) (br (! (↑ (List.length (fl (sizeN (Int.toNat (Cf.a c)) (Int.toNat (Cf.b c)) (Int.toNat (Cf.c c)) (Int.toNat (Cf.d c)) (Int.toNat (Cf.e c))) (3 + Int.toNat (Cf.a c) + Int.toNat (Cf.b c)) (Int.toNat (Cf.e c)) (Int.toNat (Cf.e c)))) : Int) == szC c) (K (.tup [.d (DV.v (Value.pointer none)), I 3]) [.cells 26 (encC c), .dead, .dead, .rowi 24 .u64 (fl (sizeN (Int.toNat (Cf.a c)) (Int.toNat (Cf.b c)) (Int.toNat (Cf.c c)) (Int.toNat (Cf.d c)) (Int.toNat (Cf.e c))) (3 + Int.toNat (Cf.a c) + Int.toNat (Cf.b c)) (Int.toNat (Cf.e c)) (Int.toNat (Cf.e c)))]) (br (fits (List.length (fl (sizeN (Int.toNat (Cf.a c)) (Int.toNat (Cf.b c)) (Int.toNat (Cf.c c)) (Int.toNat (Cf.d c)) (Int.toNat (Cf.e c))) (3 + Int.toNat (Cf.a c) + Int.toNat (Cf.b c)) (Int.toNat (Cf.e c)) (Int.toNat (Cf.e c)))) 8) (K (.tup [.ptr 7 0, I 0]) [.cells 26 (encC c), .dead, .dead, .rowi 24 .u64 (fl (sizeN (Int.toNat (Cf.a c)) (Int.toNat (Cf.b c)) (Int.toNat (Cf.c c)) (Int.toNat (Cf.d c)) (Int.toNat (Cf.e c))) (3 + Int.toNat (Cf.a c) + Int.toNat (Cf.b c)) (Int.toNat (Cf.e c)) (Int.toNat (Cf.e c))), .dead, .dead, .rowi 24 .u64 (fl (sizeN (Int.toNat (Cf.a c)) (Int.toNat (Cf.b c)) (Int.toNat (Cf.c c)) (Int.toNat (Cf.d c)) (Int.toNat (Cf.e c))) (3 + Int.toNat (Cf.a c) + Int.toNat (Cf.b c)) (Int.toNat (Cf.e c)) (Int.toNat (Cf.e c))), .cells 79 (memC c ac0 6)]) none))) := by kernel_rfl

/-- A new memory's words. -/
def flC (c : Cf) : List Int := fl (sizeN c.a.toNat c.b.toNat c.c.toNat c.d.toNat c.e.toNat) (3 + c.a.toNat + c.b.toNat) c.e.toNat c.e.toNat
theorem flC_len {c : Cf} (h : chkC c = 0) : ((flC c).length : Int) = szC c := by unfold flC; rw [fl_length, szC_eq h]
theorem szC_le {c : Cf} (h : chkC c = 0) : szC c ≤ 1000 := by
  have := size_le (a := c.a) (b := c.b) (c := c.c) (d := c.d) (e := c.e) (f := c.f) (g := c.g) (l := c.l) h
  have h2 := szC_eq h
  omega
def NAlts (c : Cf) : List (Bool × SV × SH) :=
  [(!(chkC c == 0), .tup [.d (.v (.pointer none)), I (chkC c)], []), (true, .tup [.ptr 7 0, I 0], [.dead, .dead, .dead, .dead, .dead, .dead, .rowi 24 .u64 (flC c), .cells 79 (memC c ac0 6)])]
def F34 : List (List Int) → List (Bool × SV × SH)
  | [[a, b, c, d, e, f, g, l]] => NAlts ⟨a, b, c, d, e, f, g, l⟩
  | _ => []
def S34c {Ω : Type} : Spec Ω := conSpecL [.g cfgK] F34
theorem good34 {c : Cf} (h : chkC c = 0) : sxFn E34 A34 C34 [.agg (encC c)] [] KS = some (.tup [.ptr 7 0, I 0], [.cells 26 (encC c), .dead, .dead, .rowi 24 .u64 (flC c), .dead, .dead, .rowi 24 .u64 (flC c), .cells 79 (memC c ac0 6)]) := by
  have h1 := flC_len h
  have h2 := szC_le h
  rw [← sxFnI_eq, n34, bang_f h, br_f, br_f]
  rw [show fl (sizeN (Int.toNat (Cf.a c)) (Int.toNat (Cf.b c)) (Int.toNat (Cf.c c)) (Int.toNat (Cf.d c)) (Int.toNat (Cf.e c))) (3 + Int.toNat (Cf.a c) + Int.toNat (Cf.b c)) (Int.toNat (Cf.e c)) (Int.toNat (Cf.e c)) = flC c from rfl]
  rw [bang_f h1, br_f, fits_of (by omega), br_t]
theorem bad34 {c : Cf} (h : ¬ chkC c = 0) : sxFn E34 A34 C34 [.agg (encC c)] [] KS = some (.tup [.d (.v (.pointer none)), I (chkC c)], [.cells 26 (encC c)]) := by
  rw [← sxFnI_eq, n34, bang_t h, br_t, br_t, br_t]
theorem g34c : Good1 Try.prog 12 S34c := conGoodL Try.func12 (by kernel_rfl) c34 e34 mix (A := A34) fun L r hr hl hF => by
  obtain ⟨q0, l0, rfl, z0, hl1⟩ := lenAs_cons hl
  obtain ⟨a, b, c, d, e, f, g, l, rfl⟩ := eight z0
  have hz := lenAs_nil hl1
  subst hz
  simp only [F34, NAlts, firstAlt] at hF
  by_cases h0 : chkC ⟨a, b, c, d, e, f, g, l⟩ = 0
  · rw [bang_f h0, cond_false, cond_true] at hF
    simp only [Option.some.injEq, Prod.mk.injEq] at hF
    obtain ⟨rfl, rfl⟩ := hF
    have hv := good34 h0
    generalize flC ⟨a, b, c, d, e, f, g, l⟩ = W at *
    refine ⟨⟨trivial, trivial, trivial⟩, ⟨trivial, trivial, trivial, trivial, trivial, trivial, trivial, ⟨trivial, trivial, trivial, trivial, trivial, trivial, trivial, trivial, trivial, trivial, trivial, trivial, trivial, trivial, trivial⟩, trivial⟩, [.dead, .dead, .dead, .dead, .dead, .dead, .rowi 24 .u64 W, .cells 79 (memC ⟨a, b, c, d, e, f, g, l⟩ ac0 6)], [.cells 26 (encC ⟨a, b, c, d, e, f, g, l⟩), .dead, .dead, .rowi 24 .u64 W, .dead, .dead, .rowi 24 .u64 W, .cells 79 (memC ⟨a, b, c, d, e, f, g, l⟩ ac0 6)], RowEq.refl _, ?_, hv⟩
    kernel_rfl
  · rw [bang_t h0, cond_true] at hF
    simp only [Option.some.injEq, Prod.mk.injEq] at hF
    obtain ⟨rfl, rfl⟩ := hF
    have hv := bad34 h0
    exact ⟨⟨trivial, trivial, trivial⟩, trivial, [], [.cells 26 (encC ⟨a, b, c, d, e, f, g, l⟩)], RowEq.refl _, trim_none rfl _, hv⟩
end Go.Sx.Pr

namespace Go.Sx.Pr
open Go Go.Sx Go.Proofs
set_option maxRecDepth 100000
end Go.Sx.Pr

/- Packing of entries and tickets: what both layers' functions answer. -/
namespace Go.Sx.Pr
open Go Go.Sx Go.Proofs
set_option maxRecDepth 100000
end Go.Sx.Pr

namespace Go.Sx.Pr
open Go Go.Sx Go.Proofs
set_option maxRecDepth 100000
end Go.Sx.Pr

/- The steps of one layer, program and document, against the pure model. -/
namespace Go.Sx.Pr
open Go Go.Sx Go.Sx.Md Go.Proofs
set_option maxRecDepth 100000
end Go.Sx.Pr

namespace Go.Sx.Pr
open Go Go.Sx Go.Proofs
set_option maxRecDepth 100000
end Go.Sx.Pr

namespace Go.Sx.Pr
open Go Go.Sx Go.Proofs
set_option maxRecDepth 100000
def K1024_1 : CC := .seq (.reg false [⟨some 29, .mv (.t 1), none, 0⟩,
   ⟨some 30, .fa 0 (.t 3), none, 0⟩,
   ⟨some 31, .ld 1 false (.t 30), none, 0⟩,
   ⟨some 32, .bin .add (.c (.d (.v (.int .i64 3)))) (.t 31), none, 0⟩,
   ⟨some 33, .mv (.t 2), none, 0⟩,
   ⟨some 34, .bin .add (.t 32) (.t 33), none, 0⟩,
   ⟨some 35, .ixs 1 (.t 29) (.t 34), none, 0⟩,
   ⟨some 36, .ld 1 false (.t 35), none, 0⟩,
   ⟨some 6, .mv (.t 36), none, 0⟩,
   ⟨some 7, .mv (.c (.d (.v (.bool true)))), none, 0⟩])
 (.ret)
def K1024_2 : CC := .seq (.reg false [⟨some 8, .ld 8 true (.t 3), none, 0⟩,
   ⟨some 9, .call (.c (.fn (.func 64) [] [])) [.t 8], none, 0⟩,
   ⟨some 10, .eq .int true (.t 9) (.c (.d (.v (.int .i64 0)))), none, 0⟩,
   ⟨some 11, .mv (.t 10), none, 0⟩,
   ⟨some 12, .mv (.t 1), some (11, false), 0⟩,
   ⟨some 13, .len (.t 12), some (11, false), 0⟩,
   ⟨some 14, .ld 8 true (.t 3), some (11, false), 0⟩,
   ⟨some 15, .call (.c (.fn (.func 65) [] [])) [.t 14], some (11, false), 0⟩,
   ⟨some 16, .len (.t 15), some (11, false), 0⟩,
   ⟨some 17, .eq .int true (.t 13) (.t 16), some (11, false), 0⟩,
   ⟨some 18, .pick (.t 11) (.c (.d (.v (.bool true)))) (.t 17), none, 0⟩,
   ⟨some 19, .mv (.t 18), none, 0⟩,
   ⟨some 20, .mv (.t 2), some (19, false), 0⟩,
   ⟨some 21, .bin .lss (.t 20) (.c (.d (.v (.int .i64 0)))), some (19, false), 0⟩,
   ⟨some 22, .pick (.t 19) (.c (.d (.v (.bool true)))) (.t 21), none, 0⟩,
   ⟨some 23, .mv (.t 22), none, 0⟩,
   ⟨some 24, .mv (.t 2), some (23, false), 0⟩,
   ⟨some 25, .fa 1 (.t 3), some (23, false), 0⟩,
   ⟨some 26, .ld 1 false (.t 25), some (23, false), 0⟩,
   ⟨some 27, .bin .geq (.t 24) (.t 26), some (23, false), 0⟩,
   ⟨some 28, .pick (.t 23) (.c (.d (.v (.bool true)))) (.t 27), none, 0⟩])
 (.cond 28 (.seq (.reg false [⟨some 6, .mv (.c (.d (.v (.int .u64 0)))), none, 0⟩,
     ⟨some 7, .mv (.c (.d (.v (.bool false)))), none, 0⟩])
   (.ret))
   (.skip))
def K1024_3 : CC := .reg false [⟨some 3, .box 26 8 (.t 0), none, 0⟩,
   ⟨some 6, .mv (.c (.d (.v (.int .u64 0)))), none, 0⟩,
   ⟨some 7, .mv (.c (.d (.v (.bool false)))), none, 0⟩]
/-- coatcheck/coatcheckref08.Word -/
def C1024 : CF := ⟨3, [(6, none), (7, none)],
 .seq K1024_3 (.seq K1024_2 K1024_1)⟩
theorem c1024 : coF Try.prog Try.f19 = some C1024 := by kernel_rfl
def A1024 : Ann := { keep := [0, 1, 2, 3, 6, 7, 28], live := [] }
def E1024 {Ω : Type} : Env Ω := econs 64 S19 (econs 65 S20d (enil))
theorem e1024 : GoodE Try.prog E1024 := GoodE.cons g19 (GoodE.cons g20d (GoodE.nil))
end Go.Sx.Pr

/- Contracts: a slab's word, its state and number of parked blocks, program and document. -/
namespace Go.Sx.Pr
open Go Go.Sx Go.Sx.Md Go.Proofs
set_option maxRecDepth 100000

/-- A slab's word. -/
def wordV (c : Cf) (ws : List Int) (j : Int) : Int × Bool :=
  bif (chkC c == 0) && (((ws.length : Int) == szC c) && (decide (0 ≤ j) && decide (j < c.b))) then (ws.getD (3 + c.a + j).toNat 0, true) else (0, false)
theorem wordV_yes {c : Cf} {ws : List Int} {j : Int} (h0 : chkC c = 0) (h1 : (ws.length : Int) = szC c) (h2 : 0 ≤ j) (h3 : j < c.b) : wordV c ws j = (ws.getD (3 + c.a + j).toNat 0, true) := by
  unfold wordV; simp [h0, h1, h2, h3]
theorem wordV_no {c : Cf} {ws : List Int} {j : Int} (h : ¬ (chkC c = 0 ∧ (ws.length : Int) = szC c ∧ 0 ≤ j ∧ j < c.b)) : wordV c ws j = (0, false) := by
  unfold wordV
  cases e : (chkC c == 0) && (((ws.length : Int) == szC c) && (decide (0 ≤ j) && decide (j < c.b))) with
  | false => rfl
  | true =>
    simp only [Bool.and_eq_true, beq_iff_eq, decide_eq_true_eq] at e
    exact absurd e h
theorem wordV_u {c : Cf} {ws : List Int} {j : Int} (h : u64B ws = true) : uB (wordV c ws j).1 = true := by
  unfold wordV
  cases (chkC c == 0) && (((ws.length : Int) == szC c) && (decide (0 ≤ j) && decide (j < c.b))) with
  | false => rfl
  | true => exact u64B_all h _

theorem n1024 {Ω : Type} (it : Itr Ω) (K : SV → SH → Option Ω) (c : Cf) (ws : List Int) (j : Int) :
    sxFnI it E1024 A1024 C1024 [.agg (encC c), .d (.ints .u64 ws), I j] [] K =
    br (!chkC c == 0) (K (.tup [U 0, B false]) [.cells 26 (encC c)]) (br (chkC c == 0) (br (! (↑ (List.length ws) : Int) == (↑ (sizeN (Int.toNat (Cf.a c)) (Int.toNat (Cf.b c)) (Int.toNat (Cf.c c)) (Int.toNat (Cf.d c)) (Int.toNat (Cf.e c))) : Int)) (K (.tup [U 0, B false]) [.cells 26 (encC c)]) (br (decide (j < 0)) (K (.tup [U 0, B false]) [.cells 26 (encC c)]) (br (decide (j ≥ Cf.b c)) (K (.tup [U 0, B false]) [.cells 26 (encC c)]) (br (inB (w64' (w64' (3 + Cf.a c) + j)) (List.length ws)) (K (.tup [U (List.getD ws (Int.toNat (w64' (w64' (3 + Cf.a c) + j))) 0), B true]) [.cells 26 (encC c)]) none)))) none) := by kernel_rfl
section
variable {c : Cf} {ws : List Int} {j : Int}
theorem v1024 (h : true = true) : GivesV (sxFn E1024 A1024 C1024 [.agg (encC c), .d (.ints .u64 ws), I j] [] KS) (.tup [U (wordV c ws j).1, B (wordV c ws j).2]) := by
  rw [← sxFnI_eq, n1024]
  have no : ¬ (chkC c = 0 ∧ (ws.length : Int) = szC c ∧ 0 ≤ j ∧ j < c.b) → ∀ H, GivesV (KS (.tup [U 0, B false]) H) (.tup [U (wordV c ws j).1, B (wordV c ws j).2]) := fun q H => by rw [wordV_no q]; exact givesV
  refine GivesV.br (fun h0 => no (by simp at h0; simp [h0]) _) fun h0 => ?_
  have h0 : chkC c = 0 := by simpa using h0
  have hs := szC_eq h0
  rw [h0, show ((0 : Int) == 0) = true from rfl, br_t, ← hs]
  refine GivesV.br (fun h1 => no (by simp at h1; simp [h1]) _) fun h1 => ?_
  have h1 : (ws.length : Int) = szC c := by simpa using h1
  refine GivesV.br (fun h2 => no (by simp at h2; omega) _) fun h2 => GivesV.br (fun h3 => no (by simp at h3; omega) _) fun h3 => ?_
  have h2 : 0 ≤ j := by simpa using h2
  have h3 : j < c.b := by simpa using h3
  obtain ⟨⟨a1, a2⟩, ⟨b1, b2⟩, _⟩ := chk_zero h0
  rw [show w64' (w64' (3 + c.a) + j) = 3 + c.a + j by rw [w64_id (x := 3 + c.a) (by omega) (by omega), w64_id (by omega) (by omega)], show inB (3 + c.a + j) ws.length = true by
        simp only [inB, Bool.and_eq_true, decide_eq_true_eq]
        unfold sizeN at hs; omega, br_t, wordV_yes h0 h1 h2 h3]
  exact givesV
end
def F1024v : List (List Int) → Option (Bool × SV × SH)
  | [[c_a, c_b, c_c, c_d, c_e, c_f, c_g, c_l], ws, [j]] => let c := (⟨c_a, c_b, c_c, c_d, c_e, c_f, c_g, c_l⟩ : Md.Cf); some (true, .tup [U (wordV c ws j).1, B (wordV c ws j).2], [])
  | _ => none
def S1024c {Ω : Type} : Spec Ω := conSpec [.g cfgK, .s .u64, .i .i64] F1024v
theorem g1024c : Good1 Try.prog 19 S1024c := conGood Try.func19 (by kernel_rfl) c1024 e1024 mix (A := A1024) fun L r hr hl hF => by
  obtain ⟨q0, l0, rfl, z0, hl1⟩ := lenAs_cons hl
  obtain ⟨c_a, c_b, c_c, c_d, c_e, c_f, c_g, c_l, rfl⟩ := eight z0
  obtain ⟨ws, l1, rfl, z1, hl2⟩ := lenAs_cons hl1
  obtain ⟨q2, l2, rfl, z2, hl3⟩ := lenAs_cons hl2
  obtain ⟨j, rfl⟩ := one_of' z2
  have hz := lenAs_nil hl3
  subst hz
  simp only [F1024v, Option.some.injEq, Prod.mk.injEq] at hF
  obtain ⟨hu, rfl, rfl⟩ := hF
  obtain ⟨H, hH⟩ := v1024 (c := (⟨c_a, c_b, c_c, c_d, c_e, c_f, c_g, c_l⟩ : Md.Cf)) (ws := ws) (j := j) (by first | exact hu | exact rfl)
  exact ⟨by first | exact trivial | exact ⟨trivial, trivial⟩ | exact ⟨trivial, trivial, trivial⟩ | exact ⟨trivial, trivial, trivial, trivial⟩, trivial, H, trim_none rfl _, hH⟩

end Go.Sx.Pr

/- The contract of slices.Grow on a nil slice of integers. -/
namespace Go.Sx.Pr
open Go Go.Sx Go.Sx.Md Go.Proofs Go.RowKit
set_option maxRecDepth 100000

/-- A new row without elements. -/
theorem new_row {cx : Cx} {h : SH} {w w' : World} (hg : Gam cx h w) {cells : Array Value} {t : TypeId} (hh : w'.heap = w.heap.push (.cells cells t (0, 0))) (ho : w'.os = w.os) (hp : w'.output = w.output) (e : TypeId) (k : IntKind) :
    ∃ cx', Grow0 cx w cx' w' ∧ SRep cx' w' (.own h.length) (.slice (some (ad w.heap.size 0)) 0 cells.size) ∧ Gam cx' (h ++ [.rowi e k []]) w' := by
  have hs : ∀ b, b < w.heap.size → w'.heap[b]? = w.heap[b]? := fun b hb => by rw [hh]; simp [Array.getElem?_push, Nat.ne_of_lt hb]
  have hz : w.heap.size ≤ w'.heap.size := by rw [hh]; simp
  have hio : Io w w' := (Io.of_heap (w := w) (w' := { w' with heap := w.heap }) rfl ho hp).trans ⟨rfl, rfl, fun a => by
    have := frozen_push (w := { w' with heap := w.heap }) (ob := .cells cells t (0, 0)) (.inl ⟨_, _, rfl⟩) a
    rw [← this]
    simp only [World.frozen?, hh]⟩
  obtain ⟨g1, gr1⟩ := Gam.later hg hs hz hio
  have hT := Gam.take g1 (.rowi e k []) w.heap.size 0 cells.size false 1 (by
    simp only [ORep, Cx.ext]
    simp
    exact ⟨t, cells, by rw [hh]; simp, rfl⟩) (fun hl => ⟨by rw [hh]; simp, fun hd => by have := hg.fzlt _ hd; omega, fun m hm e => by have := hg.lt m hm; omega⟩)
  refine ⟨_, gr1.trans hT.2, ?_, hT.1⟩
  have hn := hg.n
  simp [SRep, Cx.ext, ← hn]

/-- A type's number. -/
abbrev tY (n : Nat) : Nat := n
theorem grow_nil (n : Nat) (hn : 1 ≤ n) (hl : n * 8 ≤ 140737488355328) (w : World) : Calls Try.prog 125 #[.slice none 0 0, .int .i64 n] w fun e w' => ∃ cells : Array Value, e = .returned (.slice (some (ad w.heap.size 0)) 0 cells.size) ∧ w'.heap = w.heap.push (.cells cells (tY 3) (0, 0)) ∧ w'.os = w.os ∧ w'.output = w.output := by
  obtain ⟨i, zv, c', hi, hzv, hcc, hzl, hisz, hr⟩ := zcT_sound (P := Try.prog) (t := 3) (z := [I 0]) (by kernel_rfl)
  have hb : i.bytes = 8 := by
    have : byT Try.prog (tY 3) = 8 := by kernel_rfl
    simpa [byT, hi] using this
  have hs1 : i.size = 1 := by
    have : szT Try.prog (tY 3) = 1 := by kernel_rfl
    simpa [szT, hi] using this
  have happ := Lib.run_append_nil_zeros (P := Try.prog) w (tY 32) (tY 3) (tY 32) (tY 3) i zv .i64 .i64 (by kernel_rfl) (by kernel_rfl) hi hzv n (by omega) (by omega) (by omega) (by rw [hb]; omega)
  generalize hcap : grownCap w n 0 (tY 3) = cap2 at happ
  have hcapge : n ≤ cap2 := by rw [← hcap]; exact grownCap_ge w _ 0 (tY 3)
  generalize hZ : (Builtin.zeroCells zv.cells n ++ Builtin.zeroCells zv.cells (cap2 - n)) = Z at happ
  have hc1 : zv.cells.size = 1 := by
    have h1 := (hr ⟨0, fun _ => 0, fun _ => 0, fun _ => 0, fun _ => false, fun _ => 0, fun _ => False, fun _ => False⟩ w).1.length
    rw [hcc]; simp at h1 ⊢; omega
  have hZs : Z.size = cap2 := by rw [← hZ]; simp [size_zeroCells, hc1]; omega
  clear hcap hZ
  go_enter Try.func125, Try.ntmps125
  go_wp2_with (at_builtin; refine Lib.wpList_append_run _ rfl _ _ _ _ rfl _ _ rfl rfl _ _ happ ?_)
  go_ret
  exact ⟨Z, by rw [hZs]; rfl, rfl, rfl, rfl⟩
theorem grow_zero (w : World) : Calls Try.prog 125 #[.slice none 0 0, .int .i64 0] w fun e w' => e = .returned (.slice none 0 0) ∧ w' = w := by
  go_enter Try.func125, Try.ntmps125
  go_wp2_with fail
  all_goals (go_ret; exact ⟨rfl, rfl⟩)

def S1114 {Ω : Type} : Spec Ω := fun args h k => match args with
  | [.d (.v (.slice none 0 0)), .d (.v (.int .i64 n))] => br (decide (1 ≤ n) && fits n.toNat 8) (k (.own h.length) [] [] (h ++ [.rowi 3 .i64 []])) (br (n == 0) (k (.d (.v (.slice none 0 0))) [] [] h) none)
  | _ => none
theorem enterGrow (args : Array Value) (w : World) : (callFunc 125 args).run Try.prog w = .ok (.enter 125 args) w := by
  have hf : Try.prog.funcs[125]? = some Try.f125 := Try.func125
  have hn : (Try.f125.name == "runtime.NumGoroutine") = false := by kernel_rfl
  have h1 : Try.f125.name ≠ "runtime.NumGoroutine" := by simpa using hn
  obtain ⟨c, hb⟩ : ∃ c, Try.f125.body = some c := Option.isSome_iff_exists.1 (by kernel_rfl)
  simp [callFunc, hf, h1, hb]
theorem g1114 : Good1 Try.prog 125 S1114 := by
  refine ⟨fun Ω => ⟨enterGrow, fun args h k out hs => ?_⟩, fun Ω Ω' => ?_⟩
  · unfold S1114 at hs
    split at hs
    · rename_i n
      rcases br_some hs with ⟨hb, hs2⟩ | ⟨hb, hs2⟩
      · clear hs
        simp only [Bool.and_eq_true, decide_eq_true_eq, fits] at hb
        obtain ⟨n, rfl⟩ := Int.eq_ofNat_of_zero_le (show 0 ≤ n by omega)
        simp only [Int.ofNat_eq_natCast, Int.toNat_natCast] at hb hs2 ⊢
        refine ⟨_, _, _, _, hs2, Keeps.new h _, fun cx w vals hg ha => ?_⟩
        match vals, ha with
        | [u, v], ha =>
          simp only [SRepL, SRep, DRep, and_true] at ha
          obtain ⟨⟨rfl, _⟩, rfl, _⟩ := ha
          refine (grow_nil n (by omega) hb.2 w).mono fun e w' ⟨cells, e1, e2, e3, e4⟩ => ?_
          have nm : (fun l => nmem l []) = fun _ => false := funext fun l => by simp [nmem]
          rw [nm]
          obtain ⟨cx', q1, q2, q3⟩ := new_row hg e2 e3 e4 (tY 3) .i64
          exact ⟨_, cx', e1, q1, q2, q3⟩
        | [], ha => simp [SRepL] at ha
        | [_], ha => simp [SRepL] at ha
        | _ :: _ :: _ :: _, ha => simp [SRepL] at ha
      · clear hs
        rcases br_some hs2 with ⟨h0, hs⟩ | ⟨_, hs⟩
        · have h0 : n = 0 := by simpa using h0
          subst h0
          refine ⟨_, _, _, _, hs, ⟨Nat.le_refl _, fun _ _ _ => rfl⟩, fun cx w vals hg ha => ?_⟩
          match vals, ha with
          | [u, v], ha =>
            simp only [SRepL, SRep, DRep, and_true] at ha
            obtain ⟨⟨rfl, _⟩, rfl, _⟩ := ha
            refine (grow_zero w).mono fun e w' ⟨e1, e2⟩ => ?_
            subst e2
            exact ⟨_, cx, e1, Grow.refl _ _ _, by simp [SRep, DRep, cellV], hg⟩
          | [], ha => simp [SRepL] at ha
          | [_], ha => simp [SRepL] at ha
          | _ :: _ :: _ :: _, ha => simp [SRepL] at ha
        · cases hs
    · cases hs
  · intro args h k out hs
    unfold S1114 at hs ⊢
    split at hs
    · rename_i n
      rcases br_some hs with ⟨hb, hs⟩ | ⟨hb, hs⟩
      · exact ⟨_, _, _, _, hs, fun k' => by simp only [hb, br, cond_true]⟩
      · rcases br_some hs with ⟨h0, hs⟩ | ⟨_, hs⟩
        · exact ⟨_, _, _, _, hs, fun k' => by simp only [hb, h0, br, cond_true, cond_false]⟩
        · cases hs
    · cases hs
end Go.Sx.Pr

namespace Go.Sx.Pr
open Go Go.Sx Go.Proofs
set_option maxRecDepth 100000
def K1083_1 : CC := .seq (.seq (.reg false [⟨some 9, .mv (.t 4), none, 0⟩,
   ⟨some 10, .eq .int false (.t 9) (.c (.d (.v (.int .i64 0)))), none, 0⟩])
 (.cond 10 (.seq (.reg false [⟨some 11, .ld 33 true (.t 1), none, 0⟩,
     ⟨none, .st 33 (.t 2) (.t 11), none, 0⟩,
     ⟨some 3, .mv (.c (.d (.v (.int .i64 (-1))))), none, 0⟩])
   (.ret))
   (.skip)))
 (.seq (.reg false [⟨some 12, .fa 10 (.t 1), none, 0⟩,
   ⟨some 13, .ld 1 false (.t 12), none, 0⟩,
   ⟨some 14, .mv (.t 4), none, 0⟩,
   ⟨some 15, .bin .sub (.t 14) (.c (.d (.v (.int .i64 1)))), none, 0⟩,
   ⟨some 16, .ixs 1 (.t 13) (.t 15), none, 0⟩,
   ⟨some 17, .ld 1 false (.t 16), none, 0⟩,
   ⟨some 5, .mv (.t 17), none, 0⟩])
 (.seq (.reg false [⟨some 18, .fa 10 (.t 1), none, 0⟩,
   ⟨some 19, .ld 1 false (.t 18), none, 0⟩,
   ⟨some 20, .mv (.t 4), none, 0⟩,
   ⟨some 21, .bin .sub (.t 20) (.c (.d (.v (.int .i64 1)))), none, 0⟩,
   ⟨some 22, .mv (.t 4), none, 0⟩,
   ⟨some 23, .bin .sub (.t 22) (.c (.d (.v (.int .i64 1)))), none, 0⟩,
   ⟨some 24, .slc 1 (.t 19) none (some (.t 21)) (some (.t 23)), none, 0⟩,
   ⟨some 25, .fa 10 (.t 1), none, 0⟩,
   ⟨none, .st 1 (.t 25) (.t 24), none, 0⟩])
 (.seq (.reg false [⟨some 26, .ld 33 true (.t 1), none, 0⟩,
   ⟨some 27, .mv (.t 5), none, 0⟩,
   ⟨none, .st 33 (.t 2) (.t 26), none, 0⟩,
   ⟨some 3, .mv (.t 27), none, 0⟩])
 (.ret))))
def K1083_2 : CC := .reg false [⟨some 6, .fa 10 (.t 1), none, 0⟩,
   ⟨some 7, .ld 1 false (.t 6), none, 0⟩,
   ⟨some 8, .len (.t 7), none, 0⟩,
   ⟨some 4, .mv (.t 8), none, 0⟩]
def K1083_3 : CC := .reg false [⟨some 1, .box 40 33 (.t 0), none, 0⟩,
   ⟨some 2, .newc 40 [.d (.v (.int .i64 0)), .d (.v (.int .i64 0)), .d (.v (.int .u64 0)), .d (.v (.int .u64 0)), .d (.v (.int .i64 0)), .d (.v (.bool false)), .d (.v (.int .i64 0)), .d (.v (.int .i64 0)), .d (.v (.bool false)), .d (.v (.int .u64 0)), .d (.v (.slice none 0 0)), .d (.v (.int .u64 0)), .d (.v (.slice none 0 0)), .d (.v (.int .u64 0)), .d (.v (.slice none 0 0)), .d (.v (.int .u64 0)), .d (.v (.slice none 0 0)), .d (.v (.slice none 0 0)), .d (.v (.int .i64 0)), .d (.v (.int .i64 0)), .d (.v (.int .i64 0)), .d (.v (.int .i64 0)), .d (.v (.int .i64 0)), .d (.v (.int .u64 0)), .d (.v (.int .u64 0)), .d (.v (.int .u64 0)), .d (.v (.int .u64 0)), .d (.v (.int .u64 0)), .d (.v (.int .i64 0)), .d (.v (.slice none 0 0)), .d (.v (.int .u64 0)), .d (.v (.int .i64 0)), .d (.v (.bool false))], none, 0⟩,
   ⟨some 3, .mv (.c (.d (.v (.int .i64 0)))), none, 0⟩]
/-- coatcheck/rack.Take -/
def C1083 : CF := ⟨1, [(2, some (33, true)), (3, none)],
 .seq K1083_3 (.seq K1083_2 K1083_1)⟩
theorem c1083 : coF Try.prog Try.f111 = some C1083 := by kernel_rfl
def A1083 : Ann := { keep := [0, 1, 2, 3, 4, 5, 10], live := [] }
def E1083 {Ω : Type} : Env Ω := enil
theorem e1083 : GoodE Try.prog E1083 := GoodE.nil
def S1083 {Ω : Type} : Spec Ω := inl E1083 A1083 C1083 false
theorem g1083 : Good1 Try.prog 111 S1083 := Good1.inl e1083 mix Try.func111 (by kernel_rfl) c1083 A1083 false
/-- coatcheck/take.Begin -/
def C1077 : CF := ⟨1, [(2, some (33, true))],
 .seq (.reg false [⟨some 1, .box 40 33 (.t 0), none, 0⟩,
   ⟨some 2, .newc 40 [.d (.v (.int .i64 0)), .d (.v (.int .i64 0)), .d (.v (.int .u64 0)), .d (.v (.int .u64 0)), .d (.v (.int .i64 0)), .d (.v (.bool false)), .d (.v (.int .i64 0)), .d (.v (.int .i64 0)), .d (.v (.bool false)), .d (.v (.int .u64 0)), .d (.v (.slice none 0 0)), .d (.v (.int .u64 0)), .d (.v (.slice none 0 0)), .d (.v (.int .u64 0)), .d (.v (.slice none 0 0)), .d (.v (.int .u64 0)), .d (.v (.slice none 0 0)), .d (.v (.slice none 0 0)), .d (.v (.int .i64 0)), .d (.v (.int .i64 0)), .d (.v (.int .i64 0)), .d (.v (.int .i64 0)), .d (.v (.int .i64 0)), .d (.v (.int .u64 0)), .d (.v (.int .u64 0)), .d (.v (.int .u64 0)), .d (.v (.int .u64 0)), .d (.v (.int .u64 0)), .d (.v (.int .i64 0)), .d (.v (.slice none 0 0)), .d (.v (.int .u64 0)), .d (.v (.int .i64 0)), .d (.v (.bool false))], none, 0⟩])
 (.seq (.seq (.reg false [⟨some 4, .fa 10 (.t 1), none, 0⟩,
   ⟨some 5, .ld 1 false (.t 4), none, 0⟩,
   ⟨some 6, .len (.t 5), none, 0⟩,
   ⟨some 7, .eq .int false (.t 6) (.c (.d (.v (.int .i64 0)))), none, 0⟩])
 (.cond 7 (.seq (.reg false [⟨some 8, .fa 0 (.t 1), none, 0⟩,
     ⟨none, .st 1 (.t 8) (.c (.d (.v (.int .i64 10)))), none, 0⟩])
   (.seq (.reg false [⟨some 9, .ld 33 true (.t 1), none, 0⟩,
     ⟨none, .st 33 (.t 2) (.t 9), none, 0⟩])
   (.ret)))
   (.skip)))
 (.seq (.reg false [⟨some 11, .ld 33 true (.t 1), none, 0⟩,
   ⟨some 12, .call (.c (.fn (.func 111) [] [])) [.t 11], none, 0⟩,
   ⟨some 10, .mv (.t 12), none, 0⟩,
   ⟨some 13, .ext 0 (.t 10), none, 0⟩,
   ⟨some 14, .ext 1 (.t 10), none, 0⟩,
   ⟨none, .st 33 (.t 1) (.t 13), none, 0⟩,
   ⟨some 3, .mv (.t 14), none, 0⟩])
 (.seq (.reg false [⟨some 15, .mv (.t 3), none, 0⟩,
   ⟨some 16, .bin .add (.t 15) (.c (.d (.v (.int .i64 1)))), none, 0⟩,
   ⟨some 17, .fa 18 (.t 1), none, 0⟩,
   ⟨none, .st 1 (.t 17) (.t 16), none, 0⟩,
   ⟨some 18, .fa 0 (.t 1), none, 0⟩,
   ⟨none, .st 1 (.t 18) (.c (.d (.v (.int .i64 35)))), none, 0⟩])
 (.seq (.reg false [⟨some 19, .ld 33 true (.t 1), none, 0⟩,
   ⟨none, .st 33 (.t 2) (.t 19), none, 0⟩])
 (.ret)))))⟩
theorem c1077 : coF Try.prog Try.f95 = some C1077 := by kernel_rfl
def A1077 : Ann := { keep := [0, 1, 2, 3, 7], live := [] }
def E1077 {Ω : Type} : Env Ω := econs 111 S1083 (enil)
theorem e1077 : GoodE Try.prog E1077 := GoodE.cons g1083 (GoodE.nil)
def S1077 {Ω : Type} : Spec Ω := inl E1077 A1077 C1077 false
theorem g1077 : Good1 Try.prog 95 S1077 := Good1.inl e1077 mix Try.func95 (by kernel_rfl) c1077 A1077 false
def K1112_1 : CC := .seq (.reg false [⟨some 35, .mv (.t 6), none, 0⟩,
   ⟨some 2, .mv (.t 35), none, 0⟩])
 (.ret)
def L1112_2 : CC := .seq (.reg false [⟨some 28, .bin .lss (.t 27) (.t 26), none, 0⟩])
 (.seq (.cond 28 (.skip)
   (.exit 2))
 (.seq (.block 3 (.seq (.reg false [⟨some 29, .ixs 1 (.t 25) (.t 27), none, 0⟩,
     ⟨some 30, .ld 1 false (.t 29), none, 0⟩,
     ⟨some 8, .mv (.t 30), none, 0⟩])
   (.reg false [⟨some 31, .mv (.t 6), none, 0⟩,
     ⟨some 32, .mv (.t 8), none, 0⟩,
     ⟨some 33, .app 3 1 8 (some .i64) (.t 31) (.t 32), none, 0⟩,
     ⟨some 6, .mv (.t 33), none, 0⟩])))
 (.reg false [⟨some 34, .bin .add (.t 27) (.c (.d (.v (.int .i64 1)))), none, 0⟩,
   ⟨some 27, .mv (.t 34), none, 0⟩])))
def K1112_3 : CC := .reg false [⟨some 25, .mv (.t 0), none, 0⟩,
   ⟨some 26, .len (.t 25), none, 0⟩,
   ⟨some 27, .mv (.c (.d (.v (.int .i64 0)))), none, 0⟩]
def K1112_4 : CC := .reg false [⟨some 23, .mv (.t 3), none, 0⟩,
   ⟨some 24, .call (.c (.fn (.func 125) [] [])) [.c (.d (.v (.slice none 0 0))), .t 23], none, 0⟩,
   ⟨some 6, .mv (.t 24), none, 0⟩]
def L1112_5 : CC := .seq (.reg false [⟨some 12, .bin .lss (.t 11) (.t 10), none, 0⟩])
 (.seq (.cond 12 (.skip)
   (.exit 0))
 (.seq (.block 1 (.seq (.reg false [⟨some 13, .ixs 1 (.t 9) (.t 11), none, 0⟩,
     ⟨some 14, .ld 1 false (.t 13), none, 0⟩,
     ⟨some 5, .mv (.t 14), none, 0⟩])
   (.seq (.reg false [⟨some 15, .mv (.t 3), none, 0⟩,
     ⟨some 16, .mv (.t 5), none, 0⟩,
     ⟨some 17, .len (.t 16), none, 0⟩,
     ⟨some 18, .bin .add (.t 15) (.t 17), none, 0⟩,
     ⟨some 3, .mv (.t 18), none, 0⟩])
   (.seq (.reg false [⟨some 19, .mv (.t 3), none, 0⟩,
     ⟨some 20, .bin .lss (.t 19) (.c (.d (.v (.int .i64 0)))), none, 0⟩])
   (.cond 20 (.reg false [⟨some 21, .bad, none, 0⟩,
       ⟨none, .bad, none, 0⟩])
     (.skip))))))
 (.reg false [⟨some 22, .bin .add (.t 11) (.c (.d (.v (.int .i64 1)))), none, 0⟩,
   ⟨some 11, .mv (.t 22), none, 0⟩])))
def K1112_6 : CC := .reg false [⟨some 9, .mv (.t 0), none, 0⟩,
   ⟨some 10, .len (.t 9), none, 0⟩,
   ⟨some 11, .mv (.c (.d (.v (.int .i64 0)))), none, 0⟩]
def K1112_7 : CC := .reg false [⟨some 3, .mv (.c (.d (.v (.int .i64 0)))), none, 0⟩]
def K1112_8 : CC := .reg false [⟨some 2, .mv (.c (.d (.v (.slice none 0 0)))), none, 0⟩]
/-- slices.Concat[[]int,int] -/
def C1112 : CF := ⟨1, [(2, none)],
 .seq K1112_8 (.seq K1112_7 (.seq (.seq K1112_6 (.block 0 (.loop L1112_5))) (.seq K1112_4 (.seq (.seq K1112_3 (.block 2 (.loop L1112_2))) K1112_1))))⟩
theorem c1112 : coF Try.prog Try.f124 = some C1112 := by kernel_rfl
def A1112 : Ann := { keep := [0, 2, 3, 5, 6, 8, 9, 10, 11, 12, 20, 25, 26, 27, 28], live := [(0, [0, 3, 9, 10, 11]), (2, [6, 25, 26, 27])] }
def E1112 {Ω : Type} : Env Ω := econs 125 S1114 (enil)
theorem e1112 : GoodE Try.prog E1112 := GoodE.cons g1114 (GoodE.nil)
def S1112 {Ω : Type} : Spec Ω := inl E1112 A1112 C1112 false
theorem g1112 : Good1 Try.prog 124 S1112 := Good1.inl e1112 mix Try.func124 (by kernel_rfl) c1112 A1112 false
/-- coatcheck/rack.Hold -/
def C1105 : CF := ⟨2, [(4, some (33, true))],
 .seq (.reg false [⟨some 2, .box 40 33 (.t 0), none, 0⟩,
   ⟨some 4, .newc 40 [.d (.v (.int .i64 0)), .d (.v (.int .i64 0)), .d (.v (.int .u64 0)), .d (.v (.int .u64 0)), .d (.v (.int .i64 0)), .d (.v (.bool false)), .d (.v (.int .i64 0)), .d (.v (.int .i64 0)), .d (.v (.bool false)), .d (.v (.int .u64 0)), .d (.v (.slice none 0 0)), .d (.v (.int .u64 0)), .d (.v (.slice none 0 0)), .d (.v (.int .u64 0)), .d (.v (.slice none 0 0)), .d (.v (.int .u64 0)), .d (.v (.slice none 0 0)), .d (.v (.slice none 0 0)), .d (.v (.int .i64 0)), .d (.v (.int .i64 0)), .d (.v (.int .i64 0)), .d (.v (.int .i64 0)), .d (.v (.int .i64 0)), .d (.v (.int .u64 0)), .d (.v (.int .u64 0)), .d (.v (.int .u64 0)), .d (.v (.int .u64 0)), .d (.v (.int .u64 0)), .d (.v (.int .i64 0)), .d (.v (.slice none 0 0)), .d (.v (.int .u64 0)), .d (.v (.int .i64 0)), .d (.v (.bool false))], none, 0⟩])
 (.seq (.seq (.reg false [⟨some 5, .mv (.t 1), none, 0⟩,
   ⟨some 6, .len (.t 5), none, 0⟩,
   ⟨some 7, .bin .gtr (.t 6) (.c (.d (.v (.int .i64 0)))), none, 0⟩])
 (.cond 7 (.reg false [⟨some 8, .fa 17 (.t 2), none, 0⟩,
     ⟨some 9, .ld 1 false (.t 8), none, 0⟩,
     ⟨some 10, .mv (.t 1), none, 0⟩,
     ⟨some 11, .bsl 32 1 2 [.d (.v (.slice none 0 0))] [(0, 1, .t 9), (1, 1, .t 10)], none, 0⟩,
     ⟨some 12, .call (.c (.fn (.func 124) [] [])) [.t 11], none, 0⟩,
     ⟨some 13, .fa 17 (.t 2), none, 0⟩,
     ⟨none, .st 1 (.t 13) (.t 12), none, 0⟩])
   (.skip)))
 (.seq (.reg false [⟨some 14, .ld 33 true (.t 2), none, 0⟩,
   ⟨none, .st 33 (.t 4) (.t 14), none, 0⟩])
 (.ret)))⟩
theorem c1105 : coF Try.prog Try.f123 = some C1105 := by kernel_rfl
def A1105 : Ann := { keep := [0, 1, 2, 4, 7], live := [] }
def E1105 {Ω : Type} : Env Ω := econs 124 S1112 (enil)
theorem e1105 : GoodE Try.prog E1105 := GoodE.cons g1112 (GoodE.nil)
def S1105 {Ω : Type} : Spec Ω := inl E1105 A1105 C1105 false
theorem g1105 : Good1 Try.prog 123 S1105 := Good1.inl e1105 mix Try.func123 (by kernel_rfl) c1105 A1105 false
/-- coatcheck/take.popped -/
def C1087 : CF := ⟨2, [(4, some (33, true)), (5, none)],
 .seq (.reg false [⟨some 3, .box 40 33 (.t 1), none, 0⟩,
   ⟨some 4, .newc 40 [.d (.v (.int .i64 0)), .d (.v (.int .i64 0)), .d (.v (.int .u64 0)), .d (.v (.int .u64 0)), .d (.v (.int .i64 0)), .d (.v (.bool false)), .d (.v (.int .i64 0)), .d (.v (.int .i64 0)), .d (.v (.bool false)), .d (.v (.int .u64 0)), .d (.v (.slice none 0 0)), .d (.v (.int .u64 0)), .d (.v (.slice none 0 0)), .d (.v (.int .u64 0)), .d (.v (.slice none 0 0)), .d (.v (.int .u64 0)), .d (.v (.slice none 0 0)), .d (.v (.slice none 0 0)), .d (.v (.int .i64 0)), .d (.v (.int .i64 0)), .d (.v (.int .i64 0)), .d (.v (.int .i64 0)), .d (.v (.int .i64 0)), .d (.v (.int .u64 0)), .d (.v (.int .u64 0)), .d (.v (.int .u64 0)), .d (.v (.int .u64 0)), .d (.v (.int .u64 0)), .d (.v (.int .i64 0)), .d (.v (.slice none 0 0)), .d (.v (.int .u64 0)), .d (.v (.int .i64 0)), .d (.v (.bool false))], none, 0⟩,
   ⟨some 5, .mv (.c (.d (.v (.int .i64 0)))), none, 0⟩])
 (.seq (.reg false [⟨some 6, .fa 23 (.t 3), none, 0⟩,
   ⟨some 7, .ld 1 false (.t 6), none, 0⟩,
   ⟨some 8, .conv .i64 (.t 7), none, 0⟩,
   ⟨some 9, .fa 18 (.t 3), none, 0⟩,
   ⟨none, .st 1 (.t 9) (.t 8), none, 0⟩,
   ⟨some 10, .fa 0 (.t 3), none, 0⟩,
   ⟨none, .st 1 (.t 10) (.c (.d (.v (.int .i64 35)))), none, 0⟩])
 (.seq (.reg false [⟨some 11, .ld 33 true (.t 3), none, 0⟩,
   ⟨none, .st 33 (.t 4) (.t 11), none, 0⟩,
   ⟨some 5, .mv (.c (.d (.v (.int .i64 0)))), none, 0⟩])
 (.ret)))⟩
theorem c1087 : coF Try.prog Try.f116 = some C1087 := by kernel_rfl
def A1087 : Ann := { keep := [1, 3, 4, 5], live := [] }
def E1087 {Ω : Type} : Env Ω := enil
theorem e1087 : GoodE Try.prog E1087 := GoodE.nil
def S1087 {Ω : Type} : Spec Ω := inl E1087 A1087 C1087 false
theorem g1087 : Good1 Try.prog 116 S1087 := Good1.inl e1087 mix Try.func116 (by kernel_rfl) c1087 A1087 false
/-- coatcheck/take.dry -/
def C1088 : CF := ⟨2, [(4, some (33, true)), (5, none)],
 .seq (.reg false [⟨some 3, .box 40 33 (.t 1), none, 0⟩,
   ⟨some 4, .newc 40 [.d (.v (.int .i64 0)), .d (.v (.int .i64 0)), .d (.v (.int .u64 0)), .d (.v (.int .u64 0)), .d (.v (.int .i64 0)), .d (.v (.bool false)), .d (.v (.int .i64 0)), .d (.v (.int .i64 0)), .d (.v (.bool false)), .d (.v (.int .u64 0)), .d (.v (.slice none 0 0)), .d (.v (.int .u64 0)), .d (.v (.slice none 0 0)), .d (.v (.int .u64 0)), .d (.v (.slice none 0 0)), .d (.v (.int .u64 0)), .d (.v (.slice none 0 0)), .d (.v (.slice none 0 0)), .d (.v (.int .i64 0)), .d (.v (.int .i64 0)), .d (.v (.int .i64 0)), .d (.v (.int .i64 0)), .d (.v (.int .i64 0)), .d (.v (.int .u64 0)), .d (.v (.int .u64 0)), .d (.v (.int .u64 0)), .d (.v (.int .u64 0)), .d (.v (.int .u64 0)), .d (.v (.int .i64 0)), .d (.v (.slice none 0 0)), .d (.v (.int .u64 0)), .d (.v (.int .i64 0)), .d (.v (.bool false))], none, 0⟩,
   ⟨some 5, .mv (.c (.d (.v (.int .i64 0)))), none, 0⟩])
 (.seq (.reg false [⟨some 7, .fa 25 (.t 3), none, 0⟩,
   ⟨some 8, .ld 1 false (.t 7), none, 0⟩,
   ⟨some 9, .call (.c (.fn (.func 115) [] [])) [.t 8], none, 0⟩,
   ⟨some 6, .mv (.t 9), none, 0⟩,
   ⟨some 10, .ext 0 (.t 6), none, 0⟩,
   ⟨some 11, .ext 1 (.t 6), none, 0⟩,
   ⟨some 12, .fa 26 (.t 3), none, 0⟩,
   ⟨none, .st 1 (.t 12) (.t 11), none, 0⟩])
 (.seq (.reg false [⟨some 13, .fa 28 (.t 3), none, 0⟩,
   ⟨none, .st 1 (.t 13) (.c (.d (.v (.int .i64 0)))), none, 0⟩,
   ⟨some 14, .fa 0 (.t 3), none, 0⟩,
   ⟨none, .st 1 (.t 14) (.c (.d (.v (.int .i64 33)))), none, 0⟩])
 (.seq (.reg false [⟨some 15, .ld 33 true (.t 3), none, 0⟩,
   ⟨none, .st 33 (.t 4) (.t 15), none, 0⟩,
   ⟨some 5, .mv (.c (.d (.v (.int .i64 0)))), none, 0⟩])
 (.ret))))⟩
theorem c1088 : coF Try.prog Try.f117 = some C1088 := by kernel_rfl
def A1088 : Ann := { keep := [1, 3, 4, 5], live := [] }
def E1088 {Ω : Type} : Env Ω := econs 115 S118c (enil)
theorem e1088 : GoodE Try.prog E1088 := GoodE.cons g118c (GoodE.nil)
def S1088 {Ω : Type} : Spec Ω := inl E1088 A1088 C1088 false
theorem g1088 : Good1 Try.prog 117 S1088 := Good1.inl e1088 mix Try.func117 (by kernel_rfl) c1088 A1088 false
/-- coatcheck/take.again -/
def C1089 : CF := ⟨2, [(4, some (33, true)), (5, none)],
 .seq (.reg false [⟨some 3, .box 40 33 (.t 1), none, 0⟩,
   ⟨some 4, .newc 40 [.d (.v (.int .i64 0)), .d (.v (.int .i64 0)), .d (.v (.int .u64 0)), .d (.v (.int .u64 0)), .d (.v (.int .i64 0)), .d (.v (.bool false)), .d (.v (.int .i64 0)), .d (.v (.int .i64 0)), .d (.v (.bool false)), .d (.v (.int .u64 0)), .d (.v (.slice none 0 0)), .d (.v (.int .u64 0)), .d (.v (.slice none 0 0)), .d (.v (.int .u64 0)), .d (.v (.slice none 0 0)), .d (.v (.int .u64 0)), .d (.v (.slice none 0 0)), .d (.v (.slice none 0 0)), .d (.v (.int .i64 0)), .d (.v (.int .i64 0)), .d (.v (.int .i64 0)), .d (.v (.int .i64 0)), .d (.v (.int .i64 0)), .d (.v (.int .u64 0)), .d (.v (.int .u64 0)), .d (.v (.int .u64 0)), .d (.v (.int .u64 0)), .d (.v (.int .u64 0)), .d (.v (.int .i64 0)), .d (.v (.slice none 0 0)), .d (.v (.int .u64 0)), .d (.v (.int .i64 0)), .d (.v (.bool false))], none, 0⟩,
   ⟨some 5, .mv (.c (.d (.v (.int .i64 0)))), none, 0⟩])
 (.seq (.reg false [⟨some 6, .ld 33 true (.t 3), none, 0⟩,
   ⟨some 7, .call (.c (.fn (.func 95) [] [])) [.t 6], none, 0⟩,
   ⟨none, .st 33 (.t 4) (.t 7), none, 0⟩,
   ⟨some 5, .mv (.c (.d (.v (.int .i64 0)))), none, 0⟩])
 (.ret))⟩
theorem c1089 : coF Try.prog Try.f118 = some C1089 := by kernel_rfl
def A1089 : Ann := { keep := [1, 3, 4, 5], live := [] }
def E1089 {Ω : Type} : Env Ω := econs 95 S1077 (enil)
theorem e1089 : GoodE Try.prog E1089 := GoodE.cons g1077 (GoodE.nil)
def S1089 {Ω : Type} : Spec Ω := inl E1089 A1089 C1089 false
theorem g1089 : Good1 Try.prog 118 S1089 := Good1.inl e1089 mix Try.func118 (by kernel_rfl) c1089 A1089 false
def K1090_1 : CC := .seq (.reg false [⟨some 36, .ld 33 true (.t 3), none, 0⟩,
   ⟨none, .st 33 (.t 4) (.t 36), none, 0⟩,
   ⟨some 5, .mv (.c (.d (.v (.int .i64 1)))), none, 0⟩])
 (.ret)
def L1090_2 : CC := .seq (.seq (.reg false [⟨some 20, .mv (.t 7), none, 0⟩,
   ⟨some 21, .mv (.t 0), none, 0⟩,
   ⟨some 22, .nilc (.t 21), none, 0⟩,
   ⟨some 23, .fa 0 (.t 22), none, 0⟩,
   ⟨some 24, .fa 0 (.t 23), none, 0⟩,
   ⟨some 25, .fa 2 (.t 24), none, 0⟩,
   ⟨some 26, .ld 1 false (.t 25), none, 0⟩,
   ⟨some 27, .bin .lss (.t 20) (.t 26), none, 0⟩])
 (.cond 27 (.skip)
   (.exit 0)))
 (.seq (.block 1 (.reg false [⟨some 30, .ld 33 true (.t 3), none, 0⟩,
     ⟨some 31, .mv (.t 6), none, 0⟩,
     ⟨some 32, .mv (.t 7), none, 0⟩,
     ⟨some 33, .bin .add (.t 31) (.t 32), none, 0⟩,
     ⟨some 34, .bsl 3 1 1 [.d (.v (.int .i64 0))] [(0, 1, .t 33)], none, 0⟩,
     ⟨some 35, .call (.c (.fn (.func 123) [] [])) [.t 30, .t 34], none, 0⟩,
     ⟨none, .st 33 (.t 3) (.t 35), none, 0⟩]))
 (.reg false [⟨some 28, .mv (.t 7), none, 0⟩,
   ⟨some 29, .bin .add (.t 28) (.c (.d (.v (.int .i64 1)))), none, 0⟩,
   ⟨some 7, .mv (.t 29), none, 0⟩]))
def K1090_3 : CC := .reg false [⟨some 7, .mv (.c (.d (.v (.int .i64 1)))), none, 0⟩]
def K1090_4 : CC := .reg false [⟨some 17, .mv (.t 6), none, 0⟩,
   ⟨some 18, .bin .add (.t 17) (.c (.d (.v (.int .i64 1)))), none, 0⟩,
   ⟨some 19, .fa 18 (.t 3), none, 0⟩,
   ⟨none, .st 1 (.t 19) (.t 18), none, 0⟩]
def K1090_5 : CC := .reg true [⟨some 8, .fa 28 (.t 3), none, 0⟩,
   ⟨some 9, .ld 1 false (.t 8), none, 1⟩,
   ⟨some 10, .mv (.t 0), none, 0⟩,
   ⟨some 11, .nilc (.t 10), none, 4⟩,
   ⟨some 12, .fa 0 (.t 11), none, 12⟩,
   ⟨some 13, .fa 0 (.t 12), none, 28⟩,
   ⟨some 14, .fa 2 (.t 13), none, 60⟩,
   ⟨some 15, .ld 1 false (.t 14), none, 124⟩,
   ⟨some 16, .bin .mul (.t 9) (.t 15), none, 255⟩,
   ⟨some 6, .mv (.t 16), none, 511⟩]
def K1090_6 : CC := .reg false [⟨some 3, .box 40 33 (.t 1), none, 0⟩,
   ⟨some 4, .newc 40 [.d (.v (.int .i64 0)), .d (.v (.int .i64 0)), .d (.v (.int .u64 0)), .d (.v (.int .u64 0)), .d (.v (.int .i64 0)), .d (.v (.bool false)), .d (.v (.int .i64 0)), .d (.v (.int .i64 0)), .d (.v (.bool false)), .d (.v (.int .u64 0)), .d (.v (.slice none 0 0)), .d (.v (.int .u64 0)), .d (.v (.slice none 0 0)), .d (.v (.int .u64 0)), .d (.v (.slice none 0 0)), .d (.v (.int .u64 0)), .d (.v (.slice none 0 0)), .d (.v (.slice none 0 0)), .d (.v (.int .i64 0)), .d (.v (.int .i64 0)), .d (.v (.int .i64 0)), .d (.v (.int .i64 0)), .d (.v (.int .i64 0)), .d (.v (.int .u64 0)), .d (.v (.int .u64 0)), .d (.v (.int .u64 0)), .d (.v (.int .u64 0)), .d (.v (.int .u64 0)), .d (.v (.int .i64 0)), .d (.v (.slice none 0 0)), .d (.v (.int .u64 0)), .d (.v (.int .i64 0)), .d (.v (.bool false))], none, 0⟩,
   ⟨some 5, .mv (.c (.d (.v (.int .i64 0)))), none, 0⟩]
/-- coatcheck/take.claimed -/
def C1090 : CF := ⟨2, [(4, some (33, true)), (5, none)],
 .seq K1090_6 (.seq K1090_5 (.seq K1090_4 (.seq (.seq K1090_3 (.block 0 (.loop L1090_2))) K1090_1)))⟩
theorem c1090 : coF Try.prog Try.f119 = some C1090 := by kernel_rfl
def A1090 : Ann := { keep := [0, 1, 3, 4, 5, 6, 7, 27], live := [(0, [0, 3, 4, 6, 7])] }
def E1090 {Ω : Type} : Env Ω := econs 123 S1105 (enil)
theorem e1090 : GoodE Try.prog E1090 := GoodE.cons g1105 (GoodE.nil)
def S1090 {Ω : Type} : Spec Ω := inl E1090 A1090 C1090 false
theorem g1090 : Good1 Try.prog 119 S1090 := Good1.inl e1090 mix Try.func119 (by kernel_rfl) c1090 A1090 false
/-- coatcheck/take.last -/
def C1091 : CF := ⟨2, [(4, some (33, true)), (5, none)],
 .seq (.reg false [⟨some 3, .box 40 33 (.t 1), none, 0⟩,
   ⟨some 4, .newc 40 [.d (.v (.int .i64 0)), .d (.v (.int .i64 0)), .d (.v (.int .u64 0)), .d (.v (.int .u64 0)), .d (.v (.int .i64 0)), .d (.v (.bool false)), .d (.v (.int .i64 0)), .d (.v (.int .i64 0)), .d (.v (.bool false)), .d (.v (.int .u64 0)), .d (.v (.slice none 0 0)), .d (.v (.int .u64 0)), .d (.v (.slice none 0 0)), .d (.v (.int .u64 0)), .d (.v (.slice none 0 0)), .d (.v (.int .u64 0)), .d (.v (.slice none 0 0)), .d (.v (.slice none 0 0)), .d (.v (.int .i64 0)), .d (.v (.int .i64 0)), .d (.v (.int .i64 0)), .d (.v (.int .i64 0)), .d (.v (.int .i64 0)), .d (.v (.int .u64 0)), .d (.v (.int .u64 0)), .d (.v (.int .u64 0)), .d (.v (.int .u64 0)), .d (.v (.int .u64 0)), .d (.v (.int .i64 0)), .d (.v (.slice none 0 0)), .d (.v (.int .u64 0)), .d (.v (.int .i64 0)), .d (.v (.bool false))], none, 0⟩,
   ⟨some 5, .mv (.c (.d (.v (.int .i64 0)))), none, 0⟩])
 (.seq (.reg false [⟨some 6, .fa 0 (.t 3), none, 0⟩,
   ⟨none, .st 1 (.t 6) (.c (.d (.v (.int .i64 38)))), none, 0⟩])
 (.seq (.reg false [⟨some 7, .ld 33 true (.t 3), none, 0⟩,
   ⟨none, .st 33 (.t 4) (.t 7), none, 0⟩,
   ⟨some 5, .mv (.c (.d (.v (.int .i64 0)))), none, 0⟩])
 (.ret)))⟩
theorem c1091 : coF Try.prog Try.f120 = some C1091 := by kernel_rfl
def A1091 : Ann := { keep := [1, 3, 4, 5], live := [] }
def E1091 {Ω : Type} : Env Ω := enil
theorem e1091 : GoodE Try.prog E1091 := GoodE.nil
def S1091 {Ω : Type} : Spec Ω := inl E1091 A1091 C1091 false
theorem g1091 : Good1 Try.prog 120 S1091 := Good1.inl e1091 mix Try.func120 (by kernel_rfl) c1091 A1091 false
/-- coatcheck/take.done -/
def C1092 : CF := ⟨2, [(4, some (33, true)), (5, none)],
 .seq (.reg false [⟨some 3, .box 40 33 (.t 1), none, 0⟩,
   ⟨some 4, .newc 40 [.d (.v (.int .i64 0)), .d (.v (.int .i64 0)), .d (.v (.int .u64 0)), .d (.v (.int .u64 0)), .d (.v (.int .i64 0)), .d (.v (.bool false)), .d (.v (.int .i64 0)), .d (.v (.int .i64 0)), .d (.v (.bool false)), .d (.v (.int .u64 0)), .d (.v (.slice none 0 0)), .d (.v (.int .u64 0)), .d (.v (.slice none 0 0)), .d (.v (.int .u64 0)), .d (.v (.slice none 0 0)), .d (.v (.int .u64 0)), .d (.v (.slice none 0 0)), .d (.v (.slice none 0 0)), .d (.v (.int .i64 0)), .d (.v (.int .i64 0)), .d (.v (.int .i64 0)), .d (.v (.int .i64 0)), .d (.v (.int .i64 0)), .d (.v (.int .u64 0)), .d (.v (.int .u64 0)), .d (.v (.int .u64 0)), .d (.v (.int .u64 0)), .d (.v (.int .u64 0)), .d (.v (.int .i64 0)), .d (.v (.slice none 0 0)), .d (.v (.int .u64 0)), .d (.v (.int .i64 0)), .d (.v (.bool false))], none, 0⟩,
   ⟨some 5, .mv (.c (.d (.v (.int .i64 0)))), none, 0⟩])
 (.seq (.reg false [⟨some 6, .ld 33 true (.t 3), none, 0⟩,
   ⟨none, .st 33 (.t 4) (.t 6), none, 0⟩,
   ⟨some 5, .mv (.c (.d (.v (.int .i64 1)))), none, 0⟩])
 (.ret))⟩
theorem c1092 : coF Try.prog Try.f121 = some C1092 := by kernel_rfl
def A1092 : Ann := { keep := [1, 3, 4, 5], live := [] }
def E1092 {Ω : Type} : Env Ω := enil
theorem e1092 : GoodE Try.prog E1092 := GoodE.nil
def S1092 {Ω : Type} : Spec Ω := inl E1092 A1092 C1092 false
theorem g1092 : Good1 Try.prog 121 S1092 := Good1.inl e1092 mix Try.func121 (by kernel_rfl) c1092 A1092 false
/-- coatcheck/take.park -/
def C1093 : CF := ⟨2, [(4, some (33, true)), (5, none)],
 .seq (.reg false [⟨some 3, .box 40 33 (.t 1), none, 0⟩,
   ⟨some 4, .newc 40 [.d (.v (.int .i64 0)), .d (.v (.int .i64 0)), .d (.v (.int .u64 0)), .d (.v (.int .u64 0)), .d (.v (.int .i64 0)), .d (.v (.bool false)), .d (.v (.int .i64 0)), .d (.v (.int .i64 0)), .d (.v (.bool false)), .d (.v (.int .u64 0)), .d (.v (.slice none 0 0)), .d (.v (.int .u64 0)), .d (.v (.slice none 0 0)), .d (.v (.int .u64 0)), .d (.v (.slice none 0 0)), .d (.v (.int .u64 0)), .d (.v (.slice none 0 0)), .d (.v (.slice none 0 0)), .d (.v (.int .i64 0)), .d (.v (.int .i64 0)), .d (.v (.int .i64 0)), .d (.v (.int .i64 0)), .d (.v (.int .i64 0)), .d (.v (.int .u64 0)), .d (.v (.int .u64 0)), .d (.v (.int .u64 0)), .d (.v (.int .u64 0)), .d (.v (.int .u64 0)), .d (.v (.int .i64 0)), .d (.v (.slice none 0 0)), .d (.v (.int .u64 0)), .d (.v (.int .i64 0)), .d (.v (.bool false))], none, 0⟩,
   ⟨some 5, .mv (.c (.d (.v (.int .i64 0)))), none, 0⟩])
 (.seq (.reg false [⟨some 6, .fa 18 (.t 3), none, 0⟩,
   ⟨some 7, .ld 1 false (.t 6), none, 0⟩,
   ⟨some 8, .fa 19 (.t 3), none, 0⟩,
   ⟨none, .st 1 (.t 8) (.t 7), none, 0⟩,
   ⟨some 9, .fa 18 (.t 3), none, 0⟩,
   ⟨none, .st 1 (.t 9) (.c (.d (.v (.int .i64 0)))), none, 0⟩,
   ⟨some 10, .fa 0 (.t 3), none, 0⟩,
   ⟨none, .st 1 (.t 10) (.c (.d (.v (.int .i64 30)))), none, 0⟩])
 (.seq (.reg false [⟨some 11, .ld 33 true (.t 3), none, 0⟩,
   ⟨none, .st 33 (.t 4) (.t 11), none, 0⟩,
   ⟨some 5, .mv (.c (.d (.v (.int .i64 0)))), none, 0⟩])
 (.ret)))⟩
theorem c1093 : coF Try.prog Try.f122 = some C1093 := by kernel_rfl
def A1093 : Ann := { keep := [1, 3, 4, 5], live := [] }
def E1093 {Ω : Type} : Env Ω := enil
theorem e1093 : GoodE Try.prog E1093 := GoodE.nil
def S1093 {Ω : Type} : Spec Ω := inl E1093 A1093 C1093 false
theorem g1093 : Good1 Try.prog 122 S1093 := Good1.inl e1093 mix Try.func122 (by kernel_rfl) c1093 A1093 false
def K1084_1 : CC := .seq (.reg false [⟨some 6, .bld [.d (.v (.nilFunc)), .d (.v (.nilFunc)), .d (.v (.nilFunc))] [(0, 1, .c (.fn (.func 15) [] [])), (1, 1, .c (.fn (.func 119) [] [])), (2, 1, .c (.fn (.func 120) [] []))], none, 0⟩,
   ⟨some 3, .newc 136 [.d (.v (.nilFunc)), .d (.v (.nilFunc)), .d (.v (.nilFunc))], none, 0⟩,
   ⟨none, .st 3 (.t 3) (.t 6), none, 0⟩])
 (.seq (.reg false [⟨some 7, .mkm, none, 0⟩,
   ⟨some 8, .ld 3 true (.t 1), none, 0⟩,
   ⟨none, .upd 0 (.t 7) (.c (.d (.v (.int .i64 10)))) (.t 8), none, 0⟩,
   ⟨some 9, .ld 3 true (.t 1), none, 0⟩,
   ⟨none, .upd 0 (.t 7) (.c (.d (.v (.int .i64 11)))) (.t 9), none, 0⟩,
   ⟨some 10, .ld 3 true (.t 1), none, 0⟩,
   ⟨none, .upd 0 (.t 7) (.c (.d (.v (.int .i64 12)))) (.t 10), none, 0⟩,
   ⟨some 11, .bld [.d (.v (.nilFunc)), .d (.v (.nilFunc)), .d (.v (.nilFunc))] [(0, 1, .c (.fn (.func 15) [] [])), (1, 1, .c (.fn (.func 121) [] [])), (2, 1, .c (.fn (.func 122) [] []))], none, 0⟩,
   ⟨none, .upd 0 (.t 7) (.c (.d (.v (.int .i64 35)))) (.t 11), none, 0⟩,
   ⟨some 12, .ld 3 true (.t 2), none, 0⟩,
   ⟨none, .upd 0 (.t 7) (.c (.d (.v (.int .i64 30)))) (.t 12), none, 0⟩,
   ⟨some 13, .ld 3 true (.t 2), none, 0⟩,
   ⟨none, .upd 0 (.t 7) (.c (.d (.v (.int .i64 31)))) (.t 13), none, 0⟩,
   ⟨some 14, .ld 3 true (.t 2), none, 0⟩,
   ⟨none, .upd 0 (.t 7) (.c (.d (.v (.int .i64 32)))) (.t 14), none, 0⟩,
   ⟨some 15, .ld 3 true (.t 3), none, 0⟩,
   ⟨none, .upd 0 (.t 7) (.c (.d (.v (.int .i64 33)))) (.t 15), none, 0⟩,
   ⟨some 16, .ld 3 true (.t 3), none, 0⟩,
   ⟨none, .upd 0 (.t 7) (.c (.d (.v (.int .i64 34)))) (.t 16), none, 0⟩,
   ⟨some 17, .mv (.t 7), none, 0⟩,
   ⟨some 0, .mv (.t 17), none, 0⟩])
 (.ret))
def K1084_2 : CC := .reg false [⟨some 5, .bld [.d (.v (.nilFunc)), .d (.v (.nilFunc)), .d (.v (.nilFunc))] [(0, 1, .c (.fn (.func 15) [] [])), (1, 1, .c (.fn (.func 118) [] [])), (2, 1, .c (.fn (.func 118) [] []))], none, 0⟩,
   ⟨some 2, .newc 136 [.d (.v (.nilFunc)), .d (.v (.nilFunc)), .d (.v (.nilFunc))], none, 0⟩,
   ⟨none, .st 3 (.t 2) (.t 5), none, 0⟩]
def K1084_3 : CC := .reg false [⟨some 4, .bld [.d (.v (.nilFunc)), .d (.v (.nilFunc)), .d (.v (.nilFunc))] [(0, 1, .c (.fn (.func 92) [] [])), (1, 1, .c (.fn (.func 116) [] [])), (2, 1, .c (.fn (.func 117) [] []))], none, 0⟩,
   ⟨some 1, .newc 136 [.d (.v (.nilFunc)), .d (.v (.nilFunc)), .d (.v (.nilFunc))], none, 0⟩,
   ⟨none, .st 3 (.t 1) (.t 4), none, 0⟩]
def K1084_4 : CC := .reg false [⟨some 0, .mv (.c (.d (.v (.map none)))), none, 0⟩]
/-- coatcheck/take.ways -/
def C1084 : CF := ⟨0, [(0, none)],
 .seq K1084_4 (.seq K1084_3 (.seq K1084_2 K1084_1))⟩
theorem c1084 : coF Try.prog Try.f112 = some C1084 := by kernel_rfl
def A1084 : Ann := { keep := [0, 1, 2, 3], live := [] }
def E1084 {Ω : Type} : Env Ω := econs 15 S61m (econs 92 S45m (econs 116 S1087 (econs 117 S1088 (econs 118 S1089 (econs 119 S1090 (econs 120 S1091 (econs 121 S1092 (econs 122 S1093 (enil)))))))))
theorem e1084 : GoodE Try.prog E1084 := GoodE.cons g61m (GoodE.cons g45m (GoodE.cons g1087 (GoodE.cons g1088 (GoodE.cons g1089 (GoodE.cons g1090 (GoodE.cons g1091 (GoodE.cons g1092 (GoodE.cons g1093 (GoodE.nil)))))))))
end Go.Sx.Pr
