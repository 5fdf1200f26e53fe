/- The contract of memory.From. -/
import Derived.Test.YtpnnnklahanecaaQ27
import Derived.Test.YtpnnnklahanecaaQ27
import Derived.Test.YtpnnnklahanecaaRows
import Derived.KernelRfl
import Derived.Test.YtpnnnklahanecaaN2
import Derived.Test.YtpnnnklahanecaaR10
set_option linter.all false
set_option linter.unusedVariables false
set_option linter.unusedSimpArgs false
set_option linter.unnecessarySimpa false
namespace Go.Sx.Pr
open Go Go.Sx Go.Sx.Md Go.Proofs
set_option maxRecDepth 100000

theorem n18 {Ω : Type} (it : Itr Ω) (K : SV → SH → Option Ω) (c : Cf) (ws : List Int) :
    sxFnI it E18 A18 C18 [.agg (encC c), .d (.ints .u64 ws)] [] K =
    br (!chkC c == 0) (br (!chkC c == 0) (K (.tup [.d (DV.v (Value.pointer none)), I (chkC c)]) [.cells 24 (encC c), .cells 49 [I 0, I 0, I 0, I 0, I 0, I 0, I 0, U 0]]) (br (! (↑ (List.length ws) : Int) == 0) (K (.tup [.d (DV.v (Value.pointer none)), I 3]) [.cells 24 (encC c), .cells 49 [I 0, I 0, I 0, I 0, I 0, I 0, I 0, U 0]]) (br (fits (List.length ws) 8) (K (.tup [.ptr 3 0, I 0]) [.cells 24 (encC c), .cells 49 [I 0, I 0, I 0, I 0, I 0, I 0, I 0, U 0], .rowi 22 .u64 ws, .cells 51 [I 0, I 0, I 0, I 0, I 0, I 0, I 0, U 0, I 0, I 0, U 0, U 0, U 0, .own 2]]) none))) (br (! (↑ (List.length ws) : Int) == szC c) (K (.tup [.d (DV.v (Value.pointer none)), I 3]) [.cells 24 (encC c), .cells 49 (encC c)]) (br (fits (List.length ws) 8) (K (.tup [.ptr 3 0, I 0]) [.cells 24 (encC c), .cells 49 (encC c), .rowi 22 .u64 ws, .cells 51 (memC c ac0 2)]) none)) := by kernel_rfl

def FAlts (c : Cf) (ws : List Int) : List (Bool × SV × SH) :=
  [(!(chkC c == 0), .tup [.d (.v (.pointer none)), I (chkC c)], []), (!((ws.length : Int) == szC c), .tup [.d (.v (.pointer none)), I 3], []), (fits ws.length 8, .tup [.ptr 3 0, I 0], [.dead, .dead, .rowi 22 .u64 ws, .cells 51 (memC c ac0 2)])]
def F18 : List (List Int) → List (Bool × SV × SH)
  | [[a, b, c, d, e, f, g, l], ws] => FAlts ⟨a, b, c, d, e, f, g, l⟩ ws
  | _ => []
def S18c {Ω : Type} : Spec Ω := conSpecL [.g cfgK, .s .u64] F18
theorem g18c : Good1 Try.prog 18 S18c := conGoodL Try.func18 (by kernel_rfl) c18 e18 mix (A := A18) fun L r hr hl hF => by
  obtain ⟨q0, l0, rfl, z0, hl1⟩ := lenAs_cons hl
  obtain ⟨a, b, c, d, e, f, g, l, rfl⟩ := eight z0
  obtain ⟨ws, l1, rfl, z1, hl2⟩ := lenAs_cons hl1
  have hz := lenAs_nil hl2
  subst hz
  have hv := n18 itB KS ⟨a, b, c, d, e, f, g, l⟩ ws
  rw [sxFnI_eq] at hv
  simp only [F18, FAlts, firstAlt] at hF
  generalize hC : (⟨a, b, c, d, e, f, g, l⟩ : Cf) = C at *
  by_cases h0 : chkC C = 0
  · rw [bang_f h0, cond_false] at hF
    rw [bang_f h0, br_f] at hv
    by_cases h1 : (ws.length : Int) = szC C
    · rw [bang_f h1, cond_false] at hF
      rw [bang_f h1, br_f] at hv
      cases hf : fits ws.length 8 with
      | false => rw [hf] at hF; cases hF
      | true =>
        rw [hf, cond_true] at hF
        rw [hf, br_t] at hv
        simp only [Option.some.injEq, Prod.mk.injEq] at hF
        obtain ⟨rfl, rfl⟩ := hF
        subst hC
        exact ⟨⟨trivial, trivial, trivial⟩, ⟨trivial, trivial, trivial, ⟨trivial, trivial, trivial, trivial, trivial, trivial, trivial, trivial, trivial, trivial, trivial, trivial, trivial, trivial, trivial⟩, trivial⟩, _, _, RowEq.refl _, by kernel_rfl, hv⟩
    · rw [bang_t h1, cond_true] at hF
      rw [bang_t h1, br_t] at hv
      simp only [Option.some.injEq, Prod.mk.injEq] at hF
      obtain ⟨rfl, rfl⟩ := hF
      subst hC
      exact ⟨⟨trivial, trivial, trivial⟩, trivial, _, _, RowEq.refl _, trim_none rfl _, hv⟩
  · rw [bang_t h0, cond_true] at hF
    rw [bang_t h0, br_t, br_t] at hv
    simp only [Option.some.injEq, Prod.mk.injEq] at hF
    obtain ⟨rfl, rfl⟩ := hF
    subst hC
    exact ⟨⟨trivial, trivial, trivial⟩, trivial, _, _, RowEq.refl _, trim_none rfl _, hv⟩
end Go.Sx.Pr

namespace Go.Sx.Pr
open Go Go.Sx Go.Proofs
set_option maxRecDepth 100000
/-- slices.Contains[[]int,int] -/
def C91 : CF := ⟨2, [(4, none)],
 .seq (.reg false [⟨some 4, .mv (.c (.d (.v (.bool false)))), none, 0⟩])
 (.seq (.reg false [⟨some 5, .mv (.t 0), none, 0⟩,
   ⟨some 6, .mv (.t 1), none, 0⟩,
   ⟨some 7, .call (.c (.fn (.func 123) [] [])) [.t 5, .t 6], none, 0⟩,
   ⟨some 8, .bin .geq (.t 7) (.c (.d (.v (.int .i64 0)))), none, 0⟩,
   ⟨some 4, .mv (.t 8), none, 0⟩])
 (.ret))⟩
theorem c91 : coF Try.prog Try.f91 = some C91 := by kernel_rfl
def A91 : Ann := { keep := [0, 1, 4], live := [] }
def E91 {Ω : Type} : Env Ω := econs 123 S123c (enil)
theorem e91 : GoodE Try.prog E91 := GoodE.cons g123c (GoodE.nil)
def S91 {Ω : Type} : Spec Ω := inl E91 A91 C91 false
theorem g91 : Good1 Try.prog 91 S91 := Good1.inl e91 mix Try.func91 (by kernel_rfl) c91 A91 false
def K56_1 : CC := .seq (.reg false [⟨some 59, .mv (.t 11), none, 0⟩,
   ⟨some 6, .mv (.t 59), none, 0⟩,
   ⟨some 7, .mv (.c (.d (.v (.bool true)))), none, 0⟩])
 (.ret)
def K56_2 : CC := .seq (.reg false [⟨some 40, .fa 1 (.t 10), none, 0⟩,
   ⟨some 41, .ld 1 false (.t 40), none, 0⟩,
   ⟨some 42, .mv (.t 13), none, 0⟩,
   ⟨some 43, .call (.t 41) [.t 42], none, 0⟩,
   ⟨some 14, .mv (.t 43), none, 0⟩])
 (.seq (.seq (.reg false [⟨some 44, .mv (.t 14), none, 0⟩,
   ⟨some 45, .bin .lss (.t 44) (.c (.d (.v (.int .i64 0)))), none, 0⟩,
   ⟨some 46, .mv (.t 45), none, 0⟩,
   ⟨some 47, .mv (.t 11), some (46, false), 0⟩,
   ⟨some 48, .mv (.t 13), some (46, false), 0⟩,
   ⟨some 49, .call (.c (.fn (.func 91) [] [])) [.t 47, .t 48], some (46, false), 0⟩,
   ⟨some 50, .pick (.t 46) (.c (.d (.v (.bool true)))) (.t 49), none, 0⟩])
 (.cond 50 (.seq (.reg false [⟨some 6, .mv (.c (.d (.v (.slice none 0 0)))), none, 0⟩,
     ⟨some 7, .mv (.c (.d (.v (.bool false)))), none, 0⟩])
   (.ret))
   (.skip)))
 (.seq (.reg false [⟨some 51, .mv (.t 11), none, 0⟩,
   ⟨some 52, .mv (.t 13), none, 0⟩,
   ⟨some 53, .bsl 3 1 1 [.d (.v (.int .i64 0))] [(0, 1, .t 52)], none, 0⟩,
   ⟨some 54, .app 3 1 8 (some .i64) (.t 51) (.t 53), none, 0⟩,
   ⟨some 11, .mv (.t 54), none, 0⟩])
 (.reg false [⟨some 55, .mv (.t 8), none, 0⟩,
   ⟨some 56, .mv (.t 14), none, 0⟩,
   ⟨some 57, .call (.c (.fn (.func 30) [] [])) [.t 55, .t 56], none, 0⟩,
   ⟨some 58, .call (.c (.fn (.func 78) [] [])) [.t 57], none, 0⟩,
   ⟨some 12, .mv (.t 58), none, 0⟩])))
def K56_3 : CC := .reg false [⟨some 37, .mv (.t 12), none, 0⟩,
   ⟨some 38, .conv .i64 (.t 37), none, 0⟩,
   ⟨some 39, .bin .sub (.t 38) (.c (.d (.v (.int .i64 1)))), none, 0⟩,
   ⟨some 13, .mv (.t 39), none, 0⟩]
def K56_4 : CC := .seq (.reg false [⟨some 35, .mv (.t 12), none, 0⟩,
   ⟨some 36, .eq .int true (.t 35) (.c (.d (.v (.int .u64 0)))), none, 0⟩])
 (.cond 36 (.skip)
   (.exit 0))
def L56_5 : CC := .seq K56_4 (.block 1 (.seq K56_3 K56_2))
def K56_6 : CC := .reg false [⟨some 30, .mv (.t 8), none, 0⟩,
   ⟨some 31, .fa 0 (.t 10), none, 0⟩,
   ⟨some 32, .ld 1 false (.t 31), none, 0⟩,
   ⟨some 33, .call (.c (.fn (.func 30) [] [])) [.t 30, .t 32], none, 0⟩,
   ⟨some 34, .call (.c (.fn (.func 78) [] [])) [.t 33], none, 0⟩,
   ⟨some 12, .mv (.t 34), none, 0⟩]
def K56_7 : CC := .reg false [⟨some 11, .mv (.c (.d (.v (.slice none 0 0)))), none, 0⟩]
def K56_8 : CC := .seq (.reg false [⟨some 26, .mv (.t 2), none, 0⟩])
 (.cond 26 (.reg false [⟨some 27, .mv (.t 8), none, 0⟩,
     ⟨some 28, .bld [.d (.v (.int .i64 0)), .d (.v (.int .i64 0)), .d (.v (.int .u64 0)), .d (.v (.int .u64 0)), .d (.v (.int .i64 0)), .d (.v (.bool false)), .d (.v (.int .i64 0)), .d (.v (.int .i64 0)), .d (.v (.bool false)), .d (.v (.int .u64 0)), .d (.v (.slice none 0 0)), .d (.v (.int .u64 0)), .d (.v (.slice none 0 0)), .d (.v (.int .u64 0)), .d (.v (.slice none 0 0)), .d (.v (.int .u64 0)), .d (.v (.slice none 0 0)), .d (.v (.slice none 0 0)), .d (.v (.int .i64 0)), .d (.v (.int .i64 0)), .d (.v (.int .i64 0)), .d (.v (.int .i64 0)), .d (.v (.int .i64 0)), .d (.v (.int .u64 0)), .d (.v (.int .u64 0)), .d (.v (.int .u64 0)), .d (.v (.int .u64 0)), .d (.v (.int .u64 0)), .d (.v (.int .i64 0)), .d (.v (.slice none 0 0)), .d (.v (.int .u64 0)), .d (.v (.int .i64 0)), .d (.v (.bool false))] [(0, 1, .c (.d (.v (.int .i64 20))))], none, 0⟩,
     ⟨some 29, .call (.c (.fn (.func 76) [] [])) [.t 27, .t 28], none, 0⟩,
     ⟨none, .st 3 (.t 10) (.t 29), none, 0⟩])
   (.skip))
def K56_9 : CC := .reg false [⟨some 23, .mv (.t 8), none, 0⟩,
   ⟨some 24, .bld [.d (.v (.int .i64 0)), .d (.v (.int .i64 0)), .d (.v (.int .u64 0)), .d (.v (.int .u64 0)), .d (.v (.int .i64 0)), .d (.v (.bool false)), .d (.v (.int .i64 0)), .d (.v (.int .i64 0)), .d (.v (.bool false)), .d (.v (.int .u64 0)), .d (.v (.slice none 0 0)), .d (.v (.int .u64 0)), .d (.v (.slice none 0 0)), .d (.v (.int .u64 0)), .d (.v (.slice none 0 0)), .d (.v (.int .u64 0)), .d (.v (.slice none 0 0)), .d (.v (.slice none 0 0)), .d (.v (.int .i64 0)), .d (.v (.int .i64 0)), .d (.v (.int .i64 0)), .d (.v (.int .i64 0)), .d (.v (.int .i64 0)), .d (.v (.int .u64 0)), .d (.v (.int .u64 0)), .d (.v (.int .u64 0)), .d (.v (.int .u64 0)), .d (.v (.int .u64 0)), .d (.v (.int .i64 0)), .d (.v (.slice none 0 0)), .d (.v (.int .u64 0)), .d (.v (.int .i64 0)), .d (.v (.bool false))] [(0, 1, .c (.d (.v (.int .i64 10))))], none, 0⟩,
   ⟨some 25, .call (.c (.fn (.func 76) [] [])) [.t 23, .t 24], none, 0⟩,
   ⟨some 10, .newc 123 [.d (.v (.int .i64 0)), .d (.v (.nilFunc)), .d (.v (.int .i64 0))], none, 0⟩,
   ⟨none, .st 3 (.t 10) (.t 25), none, 0⟩]
def K56_10 : CC := .seq (.reg false [⟨some 21, .mv (.t 9), none, 0⟩,
   ⟨some 22, .eq .int true (.t 21) (.c (.d (.v (.int .i64 0)))), none, 0⟩])
 (.cond 22 (.seq (.reg false [⟨some 6, .mv (.c (.d (.v (.slice none 0 0)))), none, 0⟩,
     ⟨some 7, .mv (.c (.d (.v (.bool false)))), none, 0⟩])
   (.ret))
   (.skip))
def K56_11 : CC := .reg false [⟨some 16, .ld 8 true (.t 3), none, 0⟩,
   ⟨some 17, .mv (.t 1), none, 0⟩,
   ⟨some 18, .call (.c (.fn (.func 18) [] [])) [.t 16, .t 17], none, 0⟩,
   ⟨some 15, .mv (.t 18), none, 0⟩,
   ⟨some 19, .ext 0 (.t 15), none, 0⟩,
   ⟨some 20, .ext 1 (.t 15), none, 0⟩,
   ⟨some 8, .mv (.t 19), none, 0⟩,
   ⟨some 9, .mv (.t 20), none, 0⟩]
def K56_12 : CC := .reg false [⟨some 3, .box 24 8 (.t 0), none, 0⟩,
   ⟨some 6, .mv (.c (.d (.v (.slice none 0 0)))), none, 0⟩,
   ⟨some 7, .mv (.c (.d (.v (.bool false)))), none, 0⟩]
/-- coatcheck/stack.List -/
def C56 : CF := ⟨3, [(6, none), (7, none)],
 .seq K56_12 (.seq K56_11 (.seq K56_10 (.seq K56_9 (.seq K56_8 (.seq K56_7 (.seq (.seq K56_6 (.block 0 (.loop L56_5))) K56_1))))))⟩
theorem c56 : coF Try.prog Try.f56 = some C56 := by kernel_rfl
def A56 : Ann := { keep := [0, 1, 2, 3, 6, 7, 8, 9, 10, 11, 12, 13, 14, 22, 26, 36, 50], live := [(0, [8, 10, 11, 12])] }
def E56 {Ω : Type} : Env Ω := econs 18 S18c (econs 30 S30m (econs 76 S76 (econs 78 S78 (econs 91 S91 (econs 112 S112c (econs 117 S117 (enil)))))))
theorem e56 : GoodE Try.prog E56 := GoodE.cons g18c (GoodE.cons g30m (GoodE.cons g76 (GoodE.cons g78 (GoodE.cons g91 (GoodE.cons g112c (GoodE.cons g117 (GoodE.nil)))))))
def Z56_5 {Ω : Type} (it : Itr Ω) (K : SV → SH → Option Ω) : SE → SS → Option Ω := kblk 0 (kseq it E56 A56 K56_1 0 (kfn C56 K))
end Go.Sx.Pr

/- The contract of the program's List. -/
namespace Go.Sx.Pr
open Go Go.Sx Go.Sx.Md Go.Proofs
set_option maxRecDepth 100000

theorem n56 {Ω : Type} (it : Itr Ω) (K : SV → SH → Option Ω) (c : Cf) (ws : List Int) (en : Bool) :
    sxFnI it E56 A56 C56 [.agg (encC c), .d (.ints .u64 ws), B en] [] K =
    br (!chkC (c) == 0) (br (!chkC (c) == 0) (K (.tup [.d (DV.v (Value.slice none 0 0)), B false]) [.cells 24 (encC c)]) none) (br (! (↑ (List.length ws) : Int) == szC (c)) (K (.tup [.d (DV.v (Value.slice none 0 0)), B false]) [.cells 24 (encC c)]) (br (fits (List.length ws) 8) (br en (it [8, 10, 11, 12] 6 (sxI it E56 A56 L56_5 0) (SS.mk [(8, .ptr 4 0), (10, .ptr 5 0), (11, .d (DV.v (Value.slice none 0 0))), (12, U (wU (IntKind.wrap .u32 (mLoadV (Mm.mk (c) ac0 ws) 2))))] [.cells 24 (encC c), .dead, .dead, .rowi 22 .u64 (ws), .cells 51 (memC (c) (ac0) 3), .cells 123 [I 2, .fn (Fn.func 112) [.agg [I (Cf.a (c)), I (Cf.b (c)), I (Cf.c (c)), I (Cf.d (c)), I (Cf.e (c)), I (Cf.f (c)), I (Cf.g (c)), U (Cf.l (c))]] [], I (-1)]]) (Z56_5 it K)) (it [8, 10, 11, 12] 6 (sxI it E56 A56 L56_5 0) (SS.mk [(8, .ptr 4 0), (10, .ptr 5 0), (11, .d (DV.v (Value.slice none 0 0))), (12, U (wU (IntKind.wrap .u32 (mLoadV (Mm.mk (c) ac0 ws) 1))))] [.cells 24 (encC c), .dead, .dead, .rowi 22 .u64 (ws), .cells 51 (memC (c) (ac0) 3), .cells 123 [I 1, .fn (Fn.func 117) [.agg [I (Cf.a (c)), I (Cf.b (c)), I (Cf.c (c)), I (Cf.d (c)), I (Cf.e (c)), I (Cf.f (c)), I (Cf.g (c)), U (Cf.l (c))]] [], I (-1)]]) (Z56_5 it K))) none)) := by kernel_rfl
theorem r56e {Ω : Type} (it : Itr Ω) (IT : SS → Option Ω) (K : SV → SH → Option Ω) (c : Cf) (ws : List Int) (v : Int) :
    sxI it E56 A56 L56_5 0 ⟨[(8, .ptr 4 0), (10, .ptr 5 0), (11, .d (.v (.slice none 0 0))), (12, U v)], [.cells 24 (encC c), .dead, .dead, .rowi 22 .u64 ws, .cells 51 (memC c ac0 3), .cells 123 [I 2, .fn (.func 112) [.agg (encC c)] [], I (-1)]]⟩ (kitV [8, 10, 11, 12] 6 IT (Z56_5 it K)) =
    br (!v == 0) (br (decide (adr c 4 (w64' (w64' v - 1)) < 0)) (K (.tup [.d (DV.v (Value.slice none 0 0)), B false]) [.cells 24 (encC c), .dead, .dead, .rowi 22 .u64 ws, .cells 51 (memC c ac0 3), .cells 123 [I 2, .fn (Fn.func 112) [.agg [I (Cf.a c), I (Cf.b c), I (Cf.c c), I (Cf.d c), I (Cf.e c), I (Cf.f c), I (Cf.g c), U (Cf.l c)]] [], I (-1)]]) (IT (SS.mk [(8, .ptr 4 0), (10, .ptr 5 0), (11, .own 7), (12, U (wU (IntKind.wrap .u32 (mLoadV (Mm.mk c ac0 ws) (adr c 4 (w64' (w64' v - 1)))))))] [.cells 24 (encC c), .dead, .dead, .rowi 22 .u64 (ws), .cells 51 (memC (c) (ac0) 3), .cells 123 [I 2, .fn (Fn.func 112) [.agg [I (Cf.a c), I (Cf.b c), I (Cf.c c), I (Cf.d c), I (Cf.e c), I (Cf.f c), I (Cf.g c), U (Cf.l c)]] [], I (-1)], .dead, .rowi 3 .i64 [IntKind.wrap .i64 (w64' v - 1)]]))) (K (.tup [.d (DV.v (Value.slice none 0 0)), B true]) [.cells 24 (encC c), .dead, .dead, .rowi 22 .u64 ws, .cells 51 (memC c ac0 3), .cells 123 [I 2, .fn (Fn.func 112) [.agg [I (Cf.a c), I (Cf.b c), I (Cf.c c), I (Cf.d c), I (Cf.e c), I (Cf.f c), I (Cf.g c), U (Cf.l c)]] [], I (-1)]]) := by kernel_rfl
theorem r56b {Ω : Type} (it : Itr Ω) (IT : SS → Option Ω) (K : SV → SH → Option Ω) (c : Cf) (ws : List Int) (v : Int) :
    sxI it E56 A56 L56_5 0 ⟨[(8, .ptr 4 0), (10, .ptr 5 0), (11, .d (.v (.slice none 0 0))), (12, U v)], [.cells 24 (encC c), .dead, .dead, .rowi 22 .u64 ws, .cells 51 (memC c ac0 3), .cells 123 [I 1, .fn (.func 117) [.agg (encC c)] [], I (-1)]]⟩ (kitV [8, 10, 11, 12] 6 IT (Z56_5 it K)) =
    br (!v == 0) (br (decide (adr c 5 (w64' (w64' v - 1)) < 0)) (K (.tup [.d (DV.v (Value.slice none 0 0)), B false]) [.cells 24 (encC c), .dead, .dead, .rowi 22 .u64 ws, .cells 51 (memC c ac0 3), .cells 123 [I 1, .fn (Fn.func 117) [.agg [I (Cf.a c), I (Cf.b c), I (Cf.c c), I (Cf.d c), I (Cf.e c), I (Cf.f c), I (Cf.g c), U (Cf.l c)]] [], I (-1)]]) (IT (SS.mk [(8, .ptr 4 0), (10, .ptr 5 0), (11, .own 7), (12, U (wU (IntKind.wrap .u32 (mLoadV (Mm.mk c ac0 ws) (adr c 5 (w64' (w64' v - 1)))))))] [.cells 24 (encC c), .dead, .dead, .rowi 22 .u64 (ws), .cells 51 (memC (c) (ac0) 3), .cells 123 [I 1, .fn (Fn.func 117) [.agg [I (Cf.a c), I (Cf.b c), I (Cf.c c), I (Cf.d c), I (Cf.e c), I (Cf.f c), I (Cf.g c), U (Cf.l c)]] [], I (-1)], .dead, .rowi 3 .i64 [IntKind.wrap .i64 (w64' v - 1)]]))) (K (.tup [.d (DV.v (Value.slice none 0 0)), B true]) [.cells 24 (encC c), .dead, .dead, .rowi 22 .u64 ws, .cells 51 (memC c ac0 3), .cells 123 [I 1, .fn (Fn.func 117) [.agg [I (Cf.a c), I (Cf.b c), I (Cf.c c), I (Cf.d c), I (Cf.e c), I (Cf.f c), I (Cf.g c), U (Cf.l c)]] [], I (-1)]]) := by kernel_rfl
theorem s56e {Ω : Type} (it : Itr Ω) (IT : SS → Option Ω) (K : SV → SH → Option Ω) (c : Cf) (ws xs : List Int) (v : Int) :
    sxI it E56 A56 L56_5 0 ⟨[(8, .ptr 4 0), (10, .ptr 5 0), (11, .own 7), (12, U v)], [.cells 24 (encC c), .dead, .dead, .rowi 22 .u64 ws, .cells 51 (memC c ac0 3), .cells 123 [I 2, .fn (.func 112) [.agg (encC c)] [], I (-1)], .dead, .rowi 3 .i64 xs]⟩ (kitV [8, 10, 11, 12] 6 IT (Z56_5 it K)) =
    br (!v == 0) (br (decide (adr c 4 (w64' (w64' v - 1)) < 0)) (K (.tup [.d (DV.v (Value.slice none 0 0)), B false]) [.cells 24 (encC c), .dead, .dead, .rowi 22 .u64 ws, .cells 51 (memC c ac0 3), .cells 123 [I 2, .fn (Fn.func 112) [.agg [I (Cf.a c), I (Cf.b c), I (Cf.c c), I (Cf.d c), I (Cf.e c), I (Cf.f c), I (Cf.g c), U (Cf.l c)]] [], I (-1)], .dead, .rowi 3 .i64 xs]) (br (decide (List.length xs < 1000000000)) (br (decide (idxV (w64' (w64' v - 1)) 0 xs ≥ 0)) (K (.tup [.d (DV.v (Value.slice none 0 0)), B false]) [.cells 24 (encC c), .dead, .dead, .rowi 22 .u64 ws, .cells 51 (memC c ac0 3), .cells 123 [I 2, .fn (Fn.func 112) [.agg [I (Cf.a c), I (Cf.b c), I (Cf.c c), I (Cf.d c), I (Cf.e c), I (Cf.f c), I (Cf.g c), U (Cf.l c)]] [], I (-1)], .dead, .rowi 3 .i64 xs]) (br (fits (List.length xs + 1) 8) (IT (SS.mk [(8, .ptr 4 0), (10, .ptr 5 0), (11, .own 7), (12, U (wU (IntKind.wrap .u32 (mLoadV (Mm.mk c ac0 ws) (adr c 4 (w64' (w64' v - 1)))))))] [.cells 24 (encC c), .dead, .dead, .rowi 22 .u64 (ws), .cells 51 (memC (c) (ac0) 3), .cells 123 [I 2, .fn (Fn.func 112) [.agg [I (Cf.a c), I (Cf.b c), I (Cf.c c), I (Cf.d c), I (Cf.e c), I (Cf.f c), I (Cf.g c), U (Cf.l c)]] [], I (-1)], .dead, .rowi 3 .i64 (xs ++ [IntKind.wrap .i64 (w64' v - 1)])])) none)) none)) (K (.tup [.own 7, B true]) [.cells 24 (encC c), .dead, .dead, .rowi 22 .u64 ws, .cells 51 (memC c ac0 3), .cells 123 [I 2, .fn (Fn.func 112) [.agg [I (Cf.a c), I (Cf.b c), I (Cf.c c), I (Cf.d c), I (Cf.e c), I (Cf.f c), I (Cf.g c), U (Cf.l c)]] [], I (-1)], .dead, .rowi 3 .i64 xs]) := by kernel_rfl
theorem s56b {Ω : Type} (it : Itr Ω) (IT : SS → Option Ω) (K : SV → SH → Option Ω) (c : Cf) (ws xs : List Int) (v : Int) :
    sxI it E56 A56 L56_5 0 ⟨[(8, .ptr 4 0), (10, .ptr 5 0), (11, .own 7), (12, U v)], [.cells 24 (encC c), .dead, .dead, .rowi 22 .u64 ws, .cells 51 (memC c ac0 3), .cells 123 [I 1, .fn (.func 117) [.agg (encC c)] [], I (-1)], .dead, .rowi 3 .i64 xs]⟩ (kitV [8, 10, 11, 12] 6 IT (Z56_5 it K)) =
    br (!v == 0) (br (decide (adr c 5 (w64' (w64' v - 1)) < 0)) (K (.tup [.d (DV.v (Value.slice none 0 0)), B false]) [.cells 24 (encC c), .dead, .dead, .rowi 22 .u64 ws, .cells 51 (memC c ac0 3), .cells 123 [I 1, .fn (Fn.func 117) [.agg [I (Cf.a c), I (Cf.b c), I (Cf.c c), I (Cf.d c), I (Cf.e c), I (Cf.f c), I (Cf.g c), U (Cf.l c)]] [], I (-1)], .dead, .rowi 3 .i64 xs]) (br (decide (List.length xs < 1000000000)) (br (decide (idxV (w64' (w64' v - 1)) 0 xs ≥ 0)) (K (.tup [.d (DV.v (Value.slice none 0 0)), B false]) [.cells 24 (encC c), .dead, .dead, .rowi 22 .u64 ws, .cells 51 (memC c ac0 3), .cells 123 [I 1, .fn (Fn.func 117) [.agg [I (Cf.a c), I (Cf.b c), I (Cf.c c), I (Cf.d c), I (Cf.e c), I (Cf.f c), I (Cf.g c), U (Cf.l c)]] [], I (-1)], .dead, .rowi 3 .i64 xs]) (br (fits (List.length xs + 1) 8) (IT (SS.mk [(8, .ptr 4 0), (10, .ptr 5 0), (11, .own 7), (12, U (wU (IntKind.wrap .u32 (mLoadV (Mm.mk c ac0 ws) (adr c 5 (w64' (w64' v - 1)))))))] [.cells 24 (encC c), .dead, .dead, .rowi 22 .u64 (ws), .cells 51 (memC (c) (ac0) 3), .cells 123 [I 1, .fn (Fn.func 117) [.agg [I (Cf.a c), I (Cf.b c), I (Cf.c c), I (Cf.d c), I (Cf.e c), I (Cf.f c), I (Cf.g c), U (Cf.l c)]] [], I (-1)], .dead, .rowi 3 .i64 (xs ++ [IntKind.wrap .i64 (w64' v - 1)])])) none)) none)) (K (.tup [.own 7, B true]) [.cells 24 (encC c), .dead, .dead, .rowi 22 .u64 ws, .cells 51 (memC c ac0 3), .cells 123 [I 1, .fn (Fn.func 117) [.agg [I (Cf.a c), I (Cf.b c), I (Cf.c c), I (Cf.d c), I (Cf.e c), I (Cf.f c), I (Cf.g c), U (Cf.l c)]] [], I (-1)], .dead, .rowi 3 .i64 xs]) := by kernel_rfl

def LResP (R : Option (List Int)) (o : Option (SV × SH)) : Prop := match R with
  | none => ∃ H, o = some (.tup [.d (.v (.slice none 0 0)), B false], H)
  | some [] => ∃ H, o = some (.tup [.d (.v (.slice none 0 0)), B true], H)
  | some (x :: r) => ∃ a b c d e f, o = some (.tup [.own 7, B true], [.cells 24 (encC a), .dead, .dead, .rowi 22 .u64 b, .cells 51 (memC a ac0 3), .cells 123 [I c, .fn (.func d) [.agg (encC a)] [], I e], f, .rowi 3 .i64 (x :: r)])
theorem adr_oute {c : Cf} {i : Int} (h0 : chkC c = 0) (h : ¬ (0 ≤ i ∧ i < manyV c true)) : adr c 4 i = -1 := by
  show atV c.a c.b c.c c.d c.e c.f c.g c.l 4 i 0 = -1
  rw [at4 h0]; exact if_neg h
theorem adr_outb {c : Cf} {i : Int} (h0 : chkC c = 0) (h : ¬ (0 ≤ i ∧ i < manyV c false)) : adr c 5 i = -1 := by
  show atV c.a c.b c.c c.d c.e c.f c.g c.l 5 i 0 = -1
  rw [at5 h0]; exact if_neg h
theorem nxtP {c : Cf} {ws : List Int} {kd i : Int} (h : inB (adr c kd i) ws.length = true) : wU (IntKind.wrap .u32 (mLoadV (Mm.mk c ac0 ws) (adr c kd i))) = nxtV c ws kd i := by
  have : mLoadV (Mm.mk c ac0 ws) (adr c kd i) = ws.getD (adr c kd i).toNat 0 := by
    unfold mLoadV
    rw [show Mm.ok (Mm.mk c ac0 ws) (adr c kd i) = true from h, cond_true]; rfl
  rw [this, IntKind.wrap_u32]
  unfold nxtV
  exact wU_id (by omega) (by omega)
abbrev SPe0 (c : Cf) (ws : List Int) (v : Int) : SS := ⟨[(8, .ptr 4 0), (10, .ptr 5 0), (11, .d (.v (.slice none 0 0))), (12, U v)], [.cells 24 (encC c), .dead, .dead, .rowi 22 .u64 ws, .cells 51 (memC c ac0 3), .cells 123 [I 2, .fn (.func 112) [.agg (encC c)] [], I (-1)]]⟩
abbrev SPe (c : Cf) (ws xs : List Int) (v : Int) : SS := ⟨[(8, .ptr 4 0), (10, .ptr 5 0), (11, .own 7), (12, U v)], [.cells 24 (encC c), .dead, .dead, .rowi 22 .u64 ws, .cells 51 (memC c ac0 3), .cells 123 [I 2, .fn (.func 112) [.agg (encC c)] [], I (-1)], .dead, .rowi 3 .i64 xs]⟩
theorem l56e {c : Cf} {ws : List Int} {n : Nat} (h0 : chkC c = 0) (h1 : (ws.length : Int) = szC c) (hm : manyV c true = n) : ∀ (f N : Nat) (v : Int) (xs : List Int), f < N → 0 ≤ v → v < 4294967296 → xs.length + f = n + 1 → xs ≠ [] → xs.Nodup → (∀ i, i ∈ xs → 0 ≤ i ∧ i < (n : Int)) →
    LResP (chase (nxtV c ws 4) n f v xs) (iter [8, 10, 11, 12] 6 (sxI itB E56 A56 L56_5 0) N (SPe c ws xs v) (Z56_5 itB KS))
  | 0, N, v, xs, _, _, _, hl, _, hd, hr => by
    have := nodup_le hd hr
    omega
  | f + 1, N, v, xs, hN, v0, v1, hl, hx, hd, hr => by
    obtain ⟨N, rfl⟩ : ∃ k, N = k + 1 := ⟨N - 1, by omega⟩
    obtain ⟨m1, m2⟩ := many_le (en := true) h0
    rw [iter_succ, s56e]
    by_cases hz : v = 0
    · subst hz
      rw [chase_zero]
      match xs, hx with
      | x :: r, _ => exact ⟨_, _, _, _, _, _, rfl⟩
    · rw [bang_t hz, br_t, w64_id (x := v) (by omega) (by omega), w64_id (x := v - 1) (by omega) (by omega)]
      by_cases h2 : v > n
      · rw [chase_no hz (.inl h2), decide_eq_true (by rw [adr_oute h0 (by omega)]; omega), br_t]
        exact ⟨_, rfl⟩
      · have hin : inB (adr c 4 (v - 1)) ws.length = true := inBL (en := true) (i := v - 1) h0 h1 (by omega) (by omega)
        have hin' : 0 ≤ adr c 4 (v - 1) ∧ adr c 4 (v - 1) < ws.length := by
          have := hin
          simp only [inB, Bool.and_eq_true, decide_eq_true_eq] at this
          exact this
        have hlen := nodup_le hd hr
        rw [decide_eq_false (by omega), br_f, decide_eq_true (by omega), br_t, idxV_ge (Int.le_refl 0)]
        cases hc : xs.contains (v - 1) with
        | true => rw [chase_no hz (.inr hc), br_t]; exact ⟨_, rfl⟩
        | false =>
          rw [chase_go hz h2 hc, br_f, fits_of (by omega), br_t, show IntKind.wrap .i64 (v - 1) = v - 1 from w64_id (by omega) (by omega), nxtP hin]
          have q := @nxt_lt c ws 4 (v - 1)
          exact l56e h0 h1 hm f N _ (xs ++ [v - 1]) (by omega) q.1 q.2 (by simp; omega) (by simp) (nodup_snoc hd hc) (fun i hi => by
            rcases List.mem_append.1 hi with h | h
            · exact hr i h
            · simp only [List.mem_singleton] at h; omega)
theorem k56e {c : Cf} {ws : List Int} {n : Nat} (h0 : chkC c = 0) (h1 : (ws.length : Int) = szC c) (hm : manyV c true = n) {N : Nat} {v : Int} (hN : n + 1 < N) (v0 : 0 ≤ v) (v1 : v < 4294967296) :
    LResP (chase (nxtV c ws 4) n (n + 1) v []) (iter [8, 10, 11, 12] 6 (sxI itB E56 A56 L56_5 0) N (SPe0 c ws v) (Z56_5 itB KS)) := by
  obtain ⟨N, rfl⟩ : ∃ k, N = k + 1 := ⟨N - 1, by omega⟩
  obtain ⟨m1, m2⟩ := many_le (en := true) h0
  rw [iter_succ, r56e]
  by_cases hz : v = 0
  · subst hz
    rw [chase_zero]
    exact ⟨_, rfl⟩
  · rw [bang_t hz, br_t, w64_id (x := v) (by omega) (by omega), w64_id (x := v - 1) (by omega) (by omega)]
    by_cases h2 : v > n
    · rw [chase_no hz (.inl h2), decide_eq_true (by rw [adr_oute h0 (by omega)]; omega), br_t]
      exact ⟨_, rfl⟩
    · have hin : inB (adr c 4 (v - 1)) ws.length = true := inBL (en := true) (i := v - 1) h0 h1 (by omega) (by omega)
      have hin' : 0 ≤ adr c 4 (v - 1) ∧ adr c 4 (v - 1) < ws.length := by
        have := hin
        simp only [inB, Bool.and_eq_true, decide_eq_true_eq] at this
        exact this
      rw [chase_go hz h2 (by simp), decide_eq_false (by omega), br_f, show IntKind.wrap .i64 (v - 1) = v - 1 from w64_id (by omega) (by omega), nxtP hin]
      have q := @nxt_lt c ws 4 (v - 1)
      exact l56e h0 h1 hm n N _ [v - 1] (by omega) q.1 q.2 (by simp; omega) (by simp) (by simp) (fun i hi => by simp only [List.mem_singleton] at hi; omega)
abbrev SPb0 (c : Cf) (ws : List Int) (v : Int) : SS := ⟨[(8, .ptr 4 0), (10, .ptr 5 0), (11, .d (.v (.slice none 0 0))), (12, U v)], [.cells 24 (encC c), .dead, .dead, .rowi 22 .u64 ws, .cells 51 (memC c ac0 3), .cells 123 [I 1, .fn (.func 117) [.agg (encC c)] [], I (-1)]]⟩
abbrev SPb (c : Cf) (ws xs : List Int) (v : Int) : SS := ⟨[(8, .ptr 4 0), (10, .ptr 5 0), (11, .own 7), (12, U v)], [.cells 24 (encC c), .dead, .dead, .rowi 22 .u64 ws, .cells 51 (memC c ac0 3), .cells 123 [I 1, .fn (.func 117) [.agg (encC c)] [], I (-1)], .dead, .rowi 3 .i64 xs]⟩
theorem l56b {c : Cf} {ws : List Int} {n : Nat} (h0 : chkC c = 0) (h1 : (ws.length : Int) = szC c) (hm : manyV c false = n) : ∀ (f N : Nat) (v : Int) (xs : List Int), f < N → 0 ≤ v → v < 4294967296 → xs.length + f = n + 1 → xs ≠ [] → xs.Nodup → (∀ i, i ∈ xs → 0 ≤ i ∧ i < (n : Int)) →
    LResP (chase (nxtV c ws 5) n f v xs) (iter [8, 10, 11, 12] 6 (sxI itB E56 A56 L56_5 0) N (SPb c ws xs v) (Z56_5 itB KS))
  | 0, N, v, xs, _, _, _, hl, _, hd, hr => by
    have := nodup_le hd hr
    omega
  | f + 1, N, v, xs, hN, v0, v1, hl, hx, hd, hr => by
    obtain ⟨N, rfl⟩ : ∃ k, N = k + 1 := ⟨N - 1, by omega⟩
    obtain ⟨m1, m2⟩ := many_le (en := false) h0
    rw [iter_succ, s56b]
    by_cases hz : v = 0
    · subst hz
      rw [chase_zero]
      match xs, hx with
      | x :: r, _ => exact ⟨_, _, _, _, _, _, rfl⟩
    · rw [bang_t hz, br_t, w64_id (x := v) (by omega) (by omega), w64_id (x := v - 1) (by omega) (by omega)]
      by_cases h2 : v > n
      · rw [chase_no hz (.inl h2), decide_eq_true (by rw [adr_outb h0 (by omega)]; omega), br_t]
        exact ⟨_, rfl⟩
      · have hin : inB (adr c 5 (v - 1)) ws.length = true := inBL (en := false) (i := v - 1) h0 h1 (by omega) (by omega)
        have hin' : 0 ≤ adr c 5 (v - 1) ∧ adr c 5 (v - 1) < ws.length := by
          have := hin
          simp only [inB, Bool.and_eq_true, decide_eq_true_eq] at this
          exact this
        have hlen := nodup_le hd hr
        rw [decide_eq_false (by omega), br_f, decide_eq_true (by omega), br_t, idxV_ge (Int.le_refl 0)]
        cases hc : xs.contains (v - 1) with
        | true => rw [chase_no hz (.inr hc), br_t]; exact ⟨_, rfl⟩
        | false =>
          rw [chase_go hz h2 hc, br_f, fits_of (by omega), br_t, show IntKind.wrap .i64 (v - 1) = v - 1 from w64_id (by omega) (by omega), nxtP hin]
          have q := @nxt_lt c ws 5 (v - 1)
          exact l56b h0 h1 hm f N _ (xs ++ [v - 1]) (by omega) q.1 q.2 (by simp; omega) (by simp) (nodup_snoc hd hc) (fun i hi => by
            rcases List.mem_append.1 hi with h | h
            · exact hr i h
            · simp only [List.mem_singleton] at h; omega)
theorem k56b {c : Cf} {ws : List Int} {n : Nat} (h0 : chkC c = 0) (h1 : (ws.length : Int) = szC c) (hm : manyV c false = n) {N : Nat} {v : Int} (hN : n + 1 < N) (v0 : 0 ≤ v) (v1 : v < 4294967296) :
    LResP (chase (nxtV c ws 5) n (n + 1) v []) (iter [8, 10, 11, 12] 6 (sxI itB E56 A56 L56_5 0) N (SPb0 c ws v) (Z56_5 itB KS)) := by
  obtain ⟨N, rfl⟩ : ∃ k, N = k + 1 := ⟨N - 1, by omega⟩
  obtain ⟨m1, m2⟩ := many_le (en := false) h0
  rw [iter_succ, r56b]
  by_cases hz : v = 0
  · subst hz
    rw [chase_zero]
    exact ⟨_, rfl⟩
  · rw [bang_t hz, br_t, w64_id (x := v) (by omega) (by omega), w64_id (x := v - 1) (by omega) (by omega)]
    by_cases h2 : v > n
    · rw [chase_no hz (.inl h2), decide_eq_true (by rw [adr_outb h0 (by omega)]; omega), br_t]
      exact ⟨_, rfl⟩
    · have hin : inB (adr c 5 (v - 1)) ws.length = true := inBL (en := false) (i := v - 1) h0 h1 (by omega) (by omega)
      have hin' : 0 ≤ adr c 5 (v - 1) ∧ adr c 5 (v - 1) < ws.length := by
        have := hin
        simp only [inB, Bool.and_eq_true, decide_eq_true_eq] at this
        exact this
      rw [chase_go hz h2 (by simp), decide_eq_false (by omega), br_f, show IntKind.wrap .i64 (v - 1) = v - 1 from w64_id (by omega) (by omega), nxtP hin]
      have q := @nxt_lt c ws 5 (v - 1)
      exact l56b h0 h1 hm n N _ [v - 1] (by omega) q.1 q.2 (by simp; omega) (by simp) (by simp) (fun i hi => by simp only [List.mem_singleton] at hi; omega)

theorem v56 {c : Cf} {ws : List Int} {en : Bool} (hw : ws.length < 1000000000) : LResP (listV c ws en) (sxFn E56 A56 C56 [.agg (encC c), .d (.ints .u64 ws), B en] [] KS) := by
  rw [← sxFnI_eq, n56]
  unfold listV
  by_cases h0 : chkC c = 0
  · rw [bang_f h0, br_f, h0, show ((0 : Int) == 0) = true from rfl]
    by_cases h1 : (ws.length : Int) = szC c
    · have hs := szC_eq h0
      obtain ⟨⟨a1, a2⟩, ⟨b1, b2⟩, _, _, ⟨e1, e2⟩, _⟩ := chk_zero h0
      obtain ⟨m1, m2⟩ := many_le (en := en) h0
      have hlen : (3 : Int) ≤ ws.length := by unfold sizeN at hs; omega
      obtain ⟨n, hn⟩ : ∃ n : Nat, manyV c en = n := ⟨(manyV c en).toNat, by omega⟩
      rw [bang_f h1, br_f, beq_iff_eq.2 h1, Bool.and_self, cond_true, fits_of (by omega), br_t, hn]
      have ht : 0 ≤ topV ws en ∧ topV ws en < 4294967296 := by unfold topV; omega
      have hp : ∀ k : Nat, k < ws.length → wU (IntKind.wrap .u32 (mLoadV (Mm.mk c ac0 ws) (k : Int))) = ws.getD k 0 % 4294967296 := fun k hk => by
        have : mLoadV (Mm.mk c ac0 ws) (k : Int) = ws.getD k 0 := by
          unfold mLoadV
          rw [show Mm.ok (Mm.mk c ac0 ws) (k : Int) = true from inB_of' (by omega) (by show (k : Int) < ws.length; omega), cond_true]; rfl
        rw [this, IntKind.wrap_u32]
        exact wU_id (by omega) (by omega)
      cases en with
      | true =>
        rw [br_t, itB_def, show wU (IntKind.wrap .u32 (mLoadV (Mm.mk c ac0 ws) 2)) = topV ws true from hp 2 (by omega)]
        exact k56e h0 h1 hn (by unfold big; omega) ht.1 ht.2
      | false =>
        rw [br_f, itB_def, show wU (IntKind.wrap .u32 (mLoadV (Mm.mk c ac0 ws) 1)) = topV ws false from hp 1 (by omega)]
        exact k56b h0 h1 hn (by unfold big; omega) ht.1 ht.2
    · have : ((ws.length : Int) == szC c) = false := by simpa using h1
      rw [bang_t h1, br_t, this, Bool.and_false, cond_false]
      exact ⟨_, rfl⟩
  · have : (chkC c == 0) = false := by simpa using h0
    rw [bang_t h0, br_t, br_t, this, Bool.false_and, cond_false]
    exact ⟨_, rfl⟩

def PAlts (g : Bool) (R : Option (List Int)) : List (Bool × SV × SH) :=
  [(g && (R == none), .tup [.d (.v (.slice none 0 0)), B false], []), (g && (R == some []), .tup [.d (.v (.slice none 0 0)), B true], []), (g, .tup [.own 7, B true], [.dead, .dead, .dead, .dead, .dead, .dead, .dead, .rowi 3 .i64 (R.getD [])])]
def F56 : List (List Int) → List (Bool × SV × SH)
  | [[a, b, c, d, e, f, g, l], ws, [en]] => PAlts (decide (ws.length < 1000000000)) (listV ⟨a, b, c, d, e, f, g, l⟩ ws (en == 1))
  | _ => []
def S56c {Ω : Type} : Spec Ω := conSpecL [.g cfgK, .s .u64, .b] F56
theorem g56c : Good1 Try.prog 56 S56c := conGoodL Try.func56 (by kernel_rfl) c56 e56 mix (A := A56) fun L r hr hl hF => by
  obtain ⟨q0, l0, rfl, z0, hl1⟩ := lenAs_cons hl
  obtain ⟨a, b, c, d, e, f, g, l, rfl⟩ := eight z0
  obtain ⟨ws, l1, rfl, z1, hl2⟩ := lenAs_cons hl1
  obtain ⟨q2, l2, rfl, z2, hl3⟩ := lenAs_cons hl2
  obtain ⟨en, rfl⟩ := one_of' z2
  have hz := lenAs_nil hl3
  subst hz
  simp only [F56, PAlts, firstAlt] at hF
  cases hw : decide (ws.length < 1000000000) with
  | false => simp only [hw, Bool.false_and, cond_false] at hF; cases hF
  | true =>
    simp only [hw, Bool.true_and] at hF
    have hv := v56 (c := ⟨a, b, c, d, e, f, g, l⟩) (en := (en == 1)) (of_decide_eq_true hw)
    generalize hR : listV ⟨a, b, c, d, e, f, g, l⟩ ws (en == 1) = R at hv hF
    match R, hv with
    | none, ⟨H, hH⟩ =>
      simp only [beq_self_eq_true, cond_true, Option.some.injEq, Prod.mk.injEq] at hF
      obtain ⟨rfl, rfl⟩ := hF
      exact ⟨⟨trivial, trivial, trivial⟩, trivial, _, H, RowEq.refl _, trim_none rfl _, hH⟩
    | some [], ⟨H, hH⟩ =>
      have : ((some [] : Option (List Int)) == none) = false := rfl
      simp only [this, cond_false, beq_self_eq_true, cond_true, Option.some.injEq, Prod.mk.injEq] at hF
      obtain ⟨rfl, rfl⟩ := hF
      exact ⟨⟨trivial, trivial, trivial⟩, trivial, _, H, RowEq.refl _, trim_none rfl _, hH⟩
    | some (x :: r'), ⟨a', b', c', d', e', f', hH⟩ =>
      have h1 : ((some (x :: r') : Option (List Int)) == none) = false := rfl
      have h2 : ((some (x :: r') : Option (List Int)) == some []) = false := rfl
      simp only [h1, h2, cond_false, cond_true, Option.some.injEq, Prod.mk.injEq, Option.getD_some] at hF
      obtain ⟨rfl, rfl⟩ := hF
      exact ⟨⟨trivial, trivial, trivial⟩, ⟨trivial, trivial, trivial, trivial, trivial, trivial, trivial, trivial, trivial⟩, _, _, RowEq.refl _, by kernel_rfl, hH⟩
end Go.Sx.Pr

namespace Go.Sx.Pr
open Go Go.Sx Go.Proofs
set_option maxRecDepth 100000
def K12_1 : CC := .seq (.reg false [⟨some 28, .ld 8 true (.t 3), none, 0⟩,
   ⟨some 29, .mv (.t 1), none, 0⟩,
   ⟨some 30, .mv (.t 2), none, 0⟩,
   ⟨some 31, .call (.c (.fn (.func 50) [] [])) [.t 28, .t 29, .t 30], none, 0⟩,
   ⟨some 27, .mv (.t 31), none, 0⟩,
   ⟨some 32, .ext 0 (.t 27), none, 0⟩,
   ⟨some 33, .ext 1 (.t 27), none, 0⟩,
   ⟨some 9, .mv (.t 32), none, 0⟩,
   ⟨some 10, .mv (.t 33), none, 0⟩])
 (.seq (.reg false [⟨some 34, .mv (.t 8), none, 0⟩,
   ⟨some 35, .mv (.t 10), none, 0⟩,
   ⟨some 36, .eq .bool false (.t 34) (.t 35), none, 0⟩,
   ⟨some 37, .mv (.t 36), none, 0⟩,
   ⟨some 38, .mv (.t 7), some (37, true), 0⟩,
   ⟨some 39, .mv (.t 9), some (37, true), 0⟩,
   ⟨some 40, .call (.c (.fn (.func 52) [] [])) [.t 38, .t 39], some (37, true), 0⟩,
   ⟨some 41, .pick (.t 37) (.t 40) (.c (.d (.v (.bool false)))), none, 0⟩,
   ⟨some 6, .mv (.t 41), none, 0⟩])
 (.ret))
def K12_2 : CC := .reg false [⟨some 21, .ld 8 true (.t 3), none, 0⟩,
   ⟨some 22, .mv (.t 1), none, 0⟩,
   ⟨some 23, .mv (.t 2), none, 0⟩,
   ⟨some 24, .call (.c (.fn (.func 56) [] [])) [.t 21, .t 22, .t 23], none, 0⟩,
   ⟨some 20, .mv (.t 24), none, 0⟩,
   ⟨some 25, .ext 0 (.t 20), none, 0⟩,
   ⟨some 26, .ext 1 (.t 20), none, 0⟩,
   ⟨some 7, .mv (.t 25), none, 0⟩,
   ⟨some 8, .mv (.t 26), none, 0⟩]
def K12_3 : CC := .seq (.reg false [⟨some 13, .ld 8 true (.t 3), none, 0⟩,
   ⟨some 14, .call (.c (.fn (.func 16) [] [])) [.t 13], none, 0⟩,
   ⟨some 15, .mv (.t 14), none, 0⟩,
   ⟨some 16, .mv (.t 1), some (15, false), 0⟩,
   ⟨some 17, .len (.t 16), some (15, false), 0⟩,
   ⟨some 18, .bin .gtr (.t 17) (.c (.d (.v (.int .i64 400)))), some (15, false), 0⟩,
   ⟨some 19, .pick (.t 15) (.c (.d (.v (.bool true)))) (.t 18), none, 0⟩])
 (.cond 19 (.seq (.reg false [⟨some 6, .mv (.c (.d (.v (.bool true)))), none, 0⟩])
   (.ret))
   (.skip))
def K12_4 : CC := .seq (.reg false [⟨some 11, .call (.c (.fn (.func 43) [] [])) [], none, 0⟩,
   ⟨some 12, .un .not (.t 11), none, 0⟩])
 (.cond 12 (.seq (.reg false [⟨some 6, .mv (.c (.d (.v (.bool false)))), none, 0⟩])
   (.ret))
   (.skip))
def K12_5 : CC := .reg false [⟨some 3, .box 24 8 (.t 0), none, 0⟩,
   ⟨some 6, .mv (.c (.d (.v (.bool false)))), none, 0⟩]
/-- coatcheck/coatchecklaw06.StackLists -/
def C12 : CF := ⟨3, [(6, none)],
 .seq K12_5 (.seq K12_4 (.seq K12_3 (.seq K12_2 K12_1)))⟩
theorem c12 : coF Try.prog Try.f12 = some C12 := by kernel_rfl
def A12 : Ann := { keep := [0, 1, 2, 3, 6, 7, 8, 9, 10, 12, 19], live := [] }
def E12 {Ω : Type} : Env Ω := econs 16 S16 (econs 43 S43 (econs 50 S50c (econs 52 S52 (econs 56 S56c (enil)))))
theorem e12 : GoodE Try.prog E12 := GoodE.cons g16 (GoodE.cons g43 (GoodE.cons g50c (GoodE.cons g52 (GoodE.cons g56c (GoodE.nil)))))
end Go.Sx.Pr

/- StackLists: the law answers true on symbolic arguments. -/
namespace Go.Sx.Pr
open Go Go.Sx Go.Sx.Md Go.Proofs
set_option maxRecDepth 100000
def eqI (a b : List Int) : Bool := decide (a = b)
theorem n12 {Ω : Type} (it : Itr Ω) (K : SV → SH → Option Ω) (c : Cf) (ws : List Int) (en : Bool) :
    sxFnI it E12 A12 C12 [.agg (encC c), .d (.ints .u64 ws), B en] [] K =
    br (chkC c == 0) (br (decide (w64' (Cf.b c * Cf.c c) > 40)) (K (B true) [.cells 24 (encC c)]) (br (decide (Cf.e c > 16)) (K (B true) [.cells 24 (encC c)]) (br (decide ((↑ (List.length ws) : Int) > 400)) (K (B true) [.cells 24 (encC c)]) (br (decide (List.length ws < 1000000000) && listV (c) ws ((bif en then (1 : Int) else 0) == 1) == none) (br (u64B ws && listV (c) ws ((bif en then (1 : Int) else 0) == 1) == none) (K (B true) [.cells 24 (encC c)]) (br (u64B ws && listV (c) ws ((bif en then (1 : Int) else 0) == 1) == some []) (K (B false) [.cells 24 (encC c)]) (br (u64B ws) (K (B false) [.cells 24 (encC c), .dead, .dead, .dead, .rowi 3 .i64 (Option.getD (listV (c) ws ((bif en then (1 : Int) else 0) == 1)) [])]) none))) (br (decide (List.length ws < 1000000000) && listV (c) ws ((bif en then (1 : Int) else 0) == 1) == some []) (br (u64B ws && listV (c) ws ((bif en then (1 : Int) else 0) == 1) == none) (K (B false) [.cells 24 (encC c)]) (br (u64B ws && listV (c) ws ((bif en then (1 : Int) else 0) == 1) == some []) (K (B true) [.cells 24 (encC c)]) (br (u64B ws) (K (B (eqI [] (Option.getD (listV (c) ws ((bif en then (1 : Int) else 0) == 1)) []))) [.cells 24 (encC c), .dead, .dead, .dead, .rowi 3 .i64 (Option.getD (listV (c) ws ((bif en then (1 : Int) else 0) == 1)) [])]) none))) (br (decide (List.length ws < 1000000000)) (br (u64B ws && listV (c) ws ((bif en then (1 : Int) else 0) == 1) == none) (K (B false) [.cells 24 (encC c), .dead, .dead, .dead, .dead, .dead, .dead, .dead, .rowi 3 .i64 (Option.getD (listV (c) ws ((bif en then (1 : Int) else 0) == 1)) [])]) (br (u64B ws && listV (c) ws ((bif en then (1 : Int) else 0) == 1) == some []) (br (decide (List.length (Option.getD (listV (c) ws ((bif en then (1 : Int) else 0) == 1)) []) < 1000000000)) (K (B (eqI (Option.getD (listV (c) ws ((bif en then (1 : Int) else 0) == 1)) []) [])) [.cells 24 (encC c), .dead, .dead, .dead, .dead, .dead, .dead, .dead, .rowi 3 .i64 (Option.getD (listV (c) ws ((bif en then (1 : Int) else 0) == 1)) [])]) none) (br (u64B ws) (br (decide (List.length (Option.getD (listV (c) ws ((bif en then (1 : Int) else 0) == 1)) []) < 1000000000)) (K (B (eqI (Option.getD (listV (c) ws ((bif en then (1 : Int) else 0) == 1)) []) (Option.getD (listV (c) ws ((bif en then (1 : Int) else 0) == 1)) []))) [.cells 24 (encC c), .dead, .dead, .dead, .dead, .dead, .dead, .dead, .rowi 3 .i64 (Option.getD (listV (c) ws ((bif en then (1 : Int) else 0) == 1)) []), .dead, .dead, .dead, .rowi 3 .i64 (Option.getD (listV (c) ws ((bif en then (1 : Int) else 0) == 1)) [])]) none) none))) none)))))) (br (decide ((↑ (List.length ws) : Int) > 400)) (K (B true) [.cells 24 (encC c)]) (br (decide (List.length ws < 1000000000) && listV (c) ws ((bif en then (1 : Int) else 0) == 1) == none) (br (u64B ws && listV (c) ws ((bif en then (1 : Int) else 0) == 1) == none) (K (B true) [.cells 24 (encC c)]) (br (u64B ws && listV (c) ws ((bif en then (1 : Int) else 0) == 1) == some []) (K (B false) [.cells 24 (encC c)]) (br (u64B ws) (K (B false) [.cells 24 (encC c), .dead, .dead, .dead, .rowi 3 .i64 (Option.getD (listV (c) ws ((bif en then (1 : Int) else 0) == 1)) [])]) none))) (br (decide (List.length ws < 1000000000) && listV (c) ws ((bif en then (1 : Int) else 0) == 1) == some []) (br (u64B ws && listV (c) ws ((bif en then (1 : Int) else 0) == 1) == none) (K (B false) [.cells 24 (encC c)]) (br (u64B ws && listV (c) ws ((bif en then (1 : Int) else 0) == 1) == some []) (K (B true) [.cells 24 (encC c)]) (br (u64B ws) (K (B (eqI [] (Option.getD (listV (c) ws ((bif en then (1 : Int) else 0) == 1)) []))) [.cells 24 (encC c), .dead, .dead, .dead, .rowi 3 .i64 (Option.getD (listV (c) ws ((bif en then (1 : Int) else 0) == 1)) [])]) none))) (br (decide (List.length ws < 1000000000)) (br (u64B ws && listV (c) ws ((bif en then (1 : Int) else 0) == 1) == none) (K (B false) [.cells 24 (encC c), .dead, .dead, .dead, .dead, .dead, .dead, .dead, .rowi 3 .i64 (Option.getD (listV (c) ws ((bif en then (1 : Int) else 0) == 1)) [])]) (br (u64B ws && listV (c) ws ((bif en then (1 : Int) else 0) == 1) == some []) (br (decide (List.length (Option.getD (listV (c) ws ((bif en then (1 : Int) else 0) == 1)) []) < 1000000000)) (K (B (eqI (Option.getD (listV (c) ws ((bif en then (1 : Int) else 0) == 1)) []) [])) [.cells 24 (encC c), .dead, .dead, .dead, .dead, .dead, .dead, .dead, .rowi 3 .i64 (Option.getD (listV (c) ws ((bif en then (1 : Int) else 0) == 1)) [])]) none) (br (u64B ws) (br (decide (List.length (Option.getD (listV (c) ws ((bif en then (1 : Int) else 0) == 1)) []) < 1000000000)) (K (B (eqI (Option.getD (listV (c) ws ((bif en then (1 : Int) else 0) == 1)) []) (Option.getD (listV (c) ws ((bif en then (1 : Int) else 0) == 1)) []))) [.cells 24 (encC c), .dead, .dead, .dead, .dead, .dead, .dead, .dead, .rowi 3 .i64 (Option.getD (listV (c) ws ((bif en then (1 : Int) else 0) == 1)) []), .dead, .dead, .dead, .rowi 3 .i64 (Option.getD (listV (c) ws ((bif en then (1 : Int) else 0) == 1)) [])]) none) none))) none)))) := by kernel_rfl

theorem listV_some {c : Cf} {ws : List Int} {en : Bool} {L : List Int} (h : listV c ws en = some L) : chkC c = 0 ∧ (ws.length : Int) = szC c ∧ Chain (nxtV c ws (kindL en)) (topV ws en) L ∧ L.Nodup ∧ (∀ i, i ∈ L → 0 ≤ i ∧ i < manyV c en) ∧ L.length ≤ 128 := by
  unfold listV at h
  cases e : (chkC c == 0) && ((ws.length : Int) == szC c) with
  | false => rw [e] at h; cases h
  | true =>
    rw [e, cond_true] at h
    simp only [Bool.and_eq_true, beq_iff_eq] at e
    obtain ⟨L', h1, h2, h3, h4⟩ := chain_chase (many := manyV c en) (fun i => nxt_lt.1) (by unfold topV; omega) (by simp) (by simp) h
    simp only [List.nil_append] at h1
    subst h1
    obtain ⟨m1, m2⟩ := many_le (en := en) e.1
    refine ⟨e.1, e.2, h2, h3, h4, ?_⟩
    have := nodup_le (E := (manyV c en).toNat) h3 (fun i hi => by have := h4 i hi; omega)
    omega

theorem main12 {c : Cf} {ws : List Int} {en : Bool} (hw : u64B ws = true) : Tru (sxFn E12 A12 C12 [.agg (encC c), .d (.ints .u64 ws), B en] [] KS) := by
  rw [← sxFnI_eq, n12]
  by_cases hl : ws.length ≤ 400
  · have h1 : decide (ws.length < 1000000000) = true := decide_eq_true (by omega)
    have h3 : ((bif en then (1 : Int) else 0) == 1) = en := by cases en <;> rfl
    rw [h3]
    have hlen : ∀ L, listV c ws en = some L → decide (L.length < 1000000000) = true := fun L h => decide_eq_true (by have := (listV_some h).2.2.2.2.2; omega)
    generalize listV c ws en = R at *
    match R, hlen with
    | none, hlen =>
      simp only [hw, h1, beq_self_eq_true, Bool.and_self, br_t]
      repeat (first | exact tru_ret | refine Tru.br (fun _ => ?_) (fun _ => ?_))
    | some [], hlen =>
      have e1 : ((some [] : Option (List Int)) == none) = false := rfl
      simp only [hw, h1, e1, eqI, Option.getD_some, decide_true, beq_self_eq_true, Bool.and_self, Bool.and_false, Bool.true_and, br_t, br_f]
      repeat (first | exact tru_ret | refine Tru.br (fun _ => ?_) (fun _ => ?_))
    | some (x :: r), hlen =>
      have e1 : ((some (x :: r) : Option (List Int)) == none) = false := rfl
      have e2 : ((some (x :: r) : Option (List Int)) == some []) = false := rfl
      have e3 := hlen _ rfl
      simp only [hw, h1, e1, e2, e3, Option.getD_some, eqI, decide_true, Bool.and_self, Bool.and_false, Bool.true_and, br_t, br_f]
      repeat (first | exact tru_ret | refine Tru.br (fun _ => ?_) (fun _ => ?_))
  · have h2 : decide ((ws.length : Int) > 400) = true := decide_eq_true (by omega)
    simp only [h2, br_t]
    repeat (first | exact tru_ret | refine Tru.br (fun _ => ?_) (fun _ => ?_))
end Go.Sx.Pr

/- A worker's state as an argument of a law. -/
namespace Go.Sx.Pr
open Go Go.Sx Go.Sx.Md Go.Proofs Go.ChangeShapes Go.WideShapes Go.ChangeAt Go.RowKit
set_option maxRecDepth 100000

section
variable {H : Type} {enc : TypeId × Value → H} {w : World}
end
end Go.Sx.Pr

/- A list of bytes as an argument of a law. -/
namespace Go.Sx.Pr
open Go Go.Sx Go.Proofs Go.ChangeShapes Go.WideShapes Go.ChangeAt Go.RowKit
set_option maxRecDepth 100000
section
variable {H : Type} {enc : TypeId × Value → H} {w : World}
end
end Go.Sx.Pr
