/- The contract of memory.New. -/
import Derived.Test.YtpnnnklahanecaaQ35
import Derived.Test.YtpnnnklahanecaaQ35
import Derived.Test.YtpnnnklahanecaaRows
import Derived.KernelRfl
set_option linter.all false
set_option linter.unusedVariables false
set_option linter.unusedSimpArgs false
set_option linter.unnecessarySimpa false
namespace Go.Sx.Pr
open Go Go.Sx Go.Sx.Md Go.Proofs
set_option maxRecDepth 100000

theorem n34 {Ω : Type} (it : Itr Ω) (K : SV → SH → Option Ω) (c : Cf) :
    sxFnI it E34 A34 C34 [.agg (encC c)] [] K =
    br (!chkC c == 0) (br (!chkC c == 0) (br (!chkC c == 0) (K (.tup [.d (DV.v (Value.pointer none)), I (chkC c)]) [.cells 24 (encC c)]) (K (.tup [.ptr 4 0, I 0]) [.cells 24 (encC c), .dead, .dead, .rowi 22 .u64 [], .cells 51 [I 0, I 0, I 0, I 0, I 0, I 0, I 0, U 0, I 0, I 0, U 0, U 0, U 0, .own 3]])) (br (!0 == szC c) (K (.tup [.d (DV.v (Value.pointer none)), I 3]) [.cells 24 (encC c)]) (K (.tup [.ptr 4 0, I 0]) [.cells 24 (encC c), .dead, .dead, .rowi 22 .u64 [], .cells 51 (memC c ac0 3)]))) (br (!chkC c == 0) (br (!chkC c == 0) (K (.tup [.d (DV.v (Value.pointer none)), I (chkC c)]) [.cells 24 (encC c), .dead, .dead, .rowi 22 .u64 (fl (sizeN (Int.toNat (Cf.a c)) (Int.toNat (Cf.b c)) (Int.toNat (Cf.c c)) (Int.toNat (Cf.d c)) (Int.toNat (Cf.e c))) (3 + Int.toNat (Cf.a c) + Int.toNat (Cf.b c)) (Int.toNat (Cf.e c)) (Int.toNat (Cf.e c)))]) (br (! (↑ (List.length (fl (sizeN (Int.toNat (Cf.a c)) (Int.toNat (Cf.b c)) (Int.toNat (Cf.c c)) (Int.toNat (Cf.d c)) (Int.toNat (Cf.e c))) (3 + Int.toNat (Cf.a c) + Int.toNat (Cf.b c)) (Int.toNat (Cf.e c)) (Int.toNat (Cf.e c)))) : Int) == 0) (K (.tup [.d (DV.v (Value.pointer none)), I 3]) [.cells 24 (encC c), .dead, .dead, .rowi 22 .u64 (fl (sizeN (Int.toNat (Cf.a c)) (Int.toNat (Cf.b c)) (Int.toNat (Cf.c c)) (Int.toNat (Cf.d c)) (Int.toNat (Cf.e c))) (3 + Int.toNat (Cf.a c) + Int.toNat (Cf.b c)) (Int.toNat (Cf.e c)) (Int.toNat (Cf.e c)))]) (br (fits (List.length (fl (sizeN (Int.toNat (Cf.a c)) (Int.toNat (Cf.b c)) (Int.toNat (Cf.c c)) (Int.toNat (Cf.d c)) (Int.toNat (Cf.e c))) (3 + Int.toNat (Cf.a c) + Int.toNat (Cf.b c)) (Int.toNat (Cf.e c)) (Int.toNat (Cf.e c)))) 8) (K (.tup [.ptr 7 0, I 0]) [.cells 24 (encC c), .dead, .dead, .rowi 22 .u64 (fl (sizeN (Int.toNat (Cf.a c)) (Int.toNat (Cf.b c)) (Int.toNat (Cf.c c)) (Int.toNat (Cf.d c)) (Int.toNat (Cf.e c))) (3 + Int.toNat (Cf.a c) + Int.toNat (Cf.b c)) (Int.toNat (Cf.e c)) (Int.toNat (Cf.e c))), .dead, .dead, .rowi 22 .u64 (fl (sizeN (Int.toNat (Cf.a c)) (Int.toNat (Cf.b c)) (Int.toNat (Cf.c c)) (Int.toNat (Cf.d c)) (Int.toNat (Cf.e c))) (3 + Int.toNat (Cf.a c) + Int.toNat (Cf.b c)) (Int.toNat (Cf.e c)) (Int.toNat (Cf.e c))), .cells 51 [I 0, I 0, I 0, I 0, I 0, I 0, I 0, U 0, I 0, I 0, U 0, U 0, U 0, .own 6]]) none))) (br (! (↑ (List.length (fl (sizeN (Int.toNat (Cf.a c)) (Int.toNat (Cf.b c)) (Int.toNat (Cf.c c)) (Int.toNat (Cf.d c)) (Int.toNat (Cf.e c))) (3 + Int.toNat (Cf.a c) + Int.toNat (Cf.b c)) (Int.toNat (Cf.e c)) (Int.toNat (Cf.e c)))) : Int) == szC c) (K (.tup [.d (DV.v (Value.pointer none)), I 3]) [.cells 24 (encC c), .dead, .dead, .rowi 22 .u64 (fl (sizeN (Int.toNat (Cf.a c)) (Int.toNat (Cf.b c)) (Int.toNat (Cf.c c)) (Int.toNat (Cf.d c)) (Int.toNat (Cf.e c))) (3 + Int.toNat (Cf.a c) + Int.toNat (Cf.b c)) (Int.toNat (Cf.e c)) (Int.toNat (Cf.e c)))]) (br (fits (List.length (fl (sizeN (Int.toNat (Cf.a c)) (Int.toNat (Cf.b c)) (Int.toNat (Cf.c c)) (Int.toNat (Cf.d c)) (Int.toNat (Cf.e c))) (3 + Int.toNat (Cf.a c) + Int.toNat (Cf.b c)) (Int.toNat (Cf.e c)) (Int.toNat (Cf.e c)))) 8) (K (.tup [.ptr 7 0, I 0]) [.cells 24 (encC c), .dead, .dead, .rowi 22 .u64 (fl (sizeN (Int.toNat (Cf.a c)) (Int.toNat (Cf.b c)) (Int.toNat (Cf.c c)) (Int.toNat (Cf.d c)) (Int.toNat (Cf.e c))) (3 + Int.toNat (Cf.a c) + Int.toNat (Cf.b c)) (Int.toNat (Cf.e c)) (Int.toNat (Cf.e c))), .dead, .dead, .rowi 22 .u64 (fl (sizeN (Int.toNat (Cf.a c)) (Int.toNat (Cf.b c)) (Int.toNat (Cf.c c)) (Int.toNat (Cf.d c)) (Int.toNat (Cf.e c))) (3 + Int.toNat (Cf.a c) + Int.toNat (Cf.b c)) (Int.toNat (Cf.e c)) (Int.toNat (Cf.e c))), .cells 51 (memC c ac0 6)]) none))) := by kernel_rfl

/-- A new memory's words. -/
def flC (c : Cf) : List Int := fl (sizeN c.a.toNat c.b.toNat c.c.toNat c.d.toNat c.e.toNat) (3 + c.a.toNat + c.b.toNat) c.e.toNat c.e.toNat
theorem flC_len {c : Cf} (h : chkC c = 0) : ((flC c).length : Int) = szC c := by unfold flC; rw [fl_length, szC_eq h]
theorem szC_le {c : Cf} (h : chkC c = 0) : szC c ≤ 1000 := by
  have := size_le (a := c.a) (b := c.b) (c := c.c) (d := c.d) (e := c.e) (f := c.f) (g := c.g) (l := c.l) h
  have h2 := szC_eq h
  omega
def NAlts (c : Cf) : List (Bool × SV × SH) :=
  [(!(chkC c == 0), .tup [.d (.v (.pointer none)), I (chkC c)], []), (true, .tup [.ptr 7 0, I 0], [.dead, .dead, .dead, .dead, .dead, .dead, .rowi 22 .u64 (flC c), .cells 51 (memC c ac0 6)])]
def F34 : List (List Int) → List (Bool × SV × SH)
  | [[a, b, c, d, e, f, g, l]] => NAlts ⟨a, b, c, d, e, f, g, l⟩
  | _ => []
def S34c {Ω : Type} : Spec Ω := conSpecL [.g cfgK] F34
theorem good34 {c : Cf} (h : chkC c = 0) : sxFn E34 A34 C34 [.agg (encC c)] [] KS = some (.tup [.ptr 7 0, I 0], [.cells 24 (encC c), .dead, .dead, .rowi 22 .u64 (flC c), .dead, .dead, .rowi 22 .u64 (flC c), .cells 51 (memC c ac0 6)]) := by
  have h1 := flC_len h
  have h2 := szC_le h
  rw [← sxFnI_eq, n34, bang_f h, br_f, br_f]
  rw [show fl (sizeN (Int.toNat (Cf.a c)) (Int.toNat (Cf.b c)) (Int.toNat (Cf.c c)) (Int.toNat (Cf.d c)) (Int.toNat (Cf.e c))) (3 + Int.toNat (Cf.a c) + Int.toNat (Cf.b c)) (Int.toNat (Cf.e c)) (Int.toNat (Cf.e c)) = flC c from rfl]
  rw [bang_f h1, br_f, fits_of (by omega), br_t]
theorem bad34 {c : Cf} (h : ¬ chkC c = 0) : sxFn E34 A34 C34 [.agg (encC c)] [] KS = some (.tup [.d (.v (.pointer none)), I (chkC c)], [.cells 24 (encC c)]) := by
  rw [← sxFnI_eq, n34, bang_t h, br_t, br_t, br_t]
theorem g34c : Good1 Try.prog 34 S34c := conGoodL Try.func34 (by kernel_rfl) c34 e34 mix (A := A34) fun L r hr hl hF => by
  obtain ⟨q0, l0, rfl, z0, hl1⟩ := lenAs_cons hl
  obtain ⟨a, b, c, d, e, f, g, l, rfl⟩ := eight z0
  have hz := lenAs_nil hl1
  subst hz
  simp only [F34, NAlts, firstAlt] at hF
  by_cases h0 : chkC ⟨a, b, c, d, e, f, g, l⟩ = 0
  · rw [bang_f h0, cond_false, cond_true] at hF
    simp only [Option.some.injEq, Prod.mk.injEq] at hF
    obtain ⟨rfl, rfl⟩ := hF
    have hv := good34 h0
    generalize flC ⟨a, b, c, d, e, f, g, l⟩ = W at *
    refine ⟨⟨trivial, trivial, trivial⟩, ⟨trivial, trivial, trivial, trivial, trivial, trivial, trivial, ⟨trivial, trivial, trivial, trivial, trivial, trivial, trivial, trivial, trivial, trivial, trivial, trivial, trivial, trivial, trivial⟩, trivial⟩, [.dead, .dead, .dead, .dead, .dead, .dead, .rowi 22 .u64 W, .cells 51 (memC ⟨a, b, c, d, e, f, g, l⟩ ac0 6)], [.cells 24 (encC ⟨a, b, c, d, e, f, g, l⟩), .dead, .dead, .rowi 22 .u64 W, .dead, .dead, .rowi 22 .u64 W, .cells 51 (memC ⟨a, b, c, d, e, f, g, l⟩ ac0 6)], RowEq.refl _, ?_, hv⟩
    kernel_rfl
  · rw [bang_t h0, cond_true] at hF
    simp only [Option.some.injEq, Prod.mk.injEq] at hF
    obtain ⟨rfl, rfl⟩ := hF
    have hv := bad34 h0
    exact ⟨⟨trivial, trivial, trivial⟩, trivial, [], [.cells 24 (encC ⟨a, b, c, d, e, f, g, l⟩)], RowEq.refl _, trim_none rfl _, hv⟩
end Go.Sx.Pr

namespace Go.Sx.Pr
open Go Go.Sx Go.Proofs
set_option maxRecDepth 100000
def K9_1 : CC := .seq (.reg false [⟨some 6, .mv (.c (.d (.v (.bool true)))), none, 0⟩])
 (.ret)
def K9_2 : CC := .reg false [⟨some 66, .mv (.t 12), none, 0⟩,
   ⟨some 67, .bin .add (.t 66) (.c (.d (.v (.int .i64 1)))), none, 0⟩,
   ⟨some 12, .mv (.t 67), none, 0⟩]
def L9_3 : CC := .seq (.seq (.reg false [⟨some 166, .mv (.t 23), none, 0⟩,
   ⟨some 167, .fa 4 (.t 7), none, 0⟩,
   ⟨some 168, .ld 1 false (.t 167), none, 0⟩,
   ⟨some 169, .bin .lss (.t 166) (.t 168), none, 0⟩])
 (.cond 169 (.skip)
   (.exit 9)))
 (.seq (.block 10 (.seq (.reg false [⟨some 172, .mv (.t 19), none, 0⟩,
     ⟨some 173, .mv (.t 23), none, 0⟩,
     ⟨some 174, .ixs 1 (.t 172) (.t 173), none, 0⟩,
     ⟨some 175, .ld 1 false (.t 174), none, 0⟩,
     ⟨some 176, .eq .int true (.t 175) (.c (.d (.v (.int .i64 1)))), none, 0⟩])
   (.cond 176 (.seq (.reg false [⟨some 6, .mv (.c (.d (.v (.bool false)))), none, 0⟩])
     (.ret))
     (.skip))))
 (.reg false [⟨some 170, .mv (.t 23), none, 0⟩,
   ⟨some 171, .bin .add (.t 170) (.c (.d (.v (.int .i64 1)))), none, 0⟩,
   ⟨some 23, .mv (.t 171), none, 0⟩]))
def K9_4 : CC := .reg false [⟨some 23, .mv (.c (.d (.v (.int .i64 0)))), none, 0⟩]
def K9_5 : CC := .reg false [⟨some 142, .mv (.t 21), none, 0⟩,
   ⟨some 143, .bin .add (.t 142) (.c (.d (.v (.int .i64 1)))), none, 0⟩,
   ⟨some 21, .mv (.t 143), none, 0⟩]
def K9_6 : CC := .block 8 (.seq (.reg false [⟨some 144, .mv (.t 10), none, 0⟩,
     ⟨some 145, .mv (.t 21), none, 0⟩,
     ⟨some 146, .ixs 33 (.t 144) (.t 145), none, 0⟩,
     ⟨some 147, .fa 20 (.t 146), none, 0⟩,
     ⟨some 148, .ld 1 false (.t 147), none, 0⟩,
     ⟨some 22, .mv (.t 148), none, 0⟩])
   (.seq (.reg false [⟨some 149, .mv (.t 22), none, 0⟩,
     ⟨some 150, .bin .gtr (.t 149) (.c (.d (.v (.int .i64 0)))), none, 0⟩,
     ⟨some 151, .mv (.t 150), none, 0⟩,
     ⟨some 152, .mv (.t 22), some (151, true), 0⟩,
     ⟨some 153, .fa 4 (.t 7), some (151, true), 0⟩,
     ⟨some 154, .ld 1 false (.t 153), some (151, true), 0⟩,
     ⟨some 155, .bin .leq (.t 152) (.t 154), some (151, true), 0⟩,
     ⟨some 156, .pick (.t 151) (.t 155) (.c (.d (.v (.bool false)))), none, 0⟩])
   (.cond 156 (.reg false [⟨some 157, .mv (.t 19), none, 0⟩,
       ⟨some 158, .mv (.t 22), none, 0⟩,
       ⟨some 159, .bin .sub (.t 158) (.c (.d (.v (.int .i64 1)))), none, 0⟩,
       ⟨some 160, .ixs 1 (.t 157) (.t 159), none, 0⟩,
       ⟨some 161, .ld 1 false (.t 160), none, 0⟩,
       ⟨some 162, .bin .add (.t 161) (.c (.d (.v (.int .i64 1)))), none, 0⟩,
       ⟨some 163, .ixs 1 (.t 157) (.t 159), none, 0⟩,
       ⟨none, .st 1 (.t 163) (.t 162), none, 0⟩])
     (.seq (.reg false [⟨some 164, .mv (.t 22), none, 0⟩,
       ⟨some 165, .eq .int true (.t 164) (.c (.d (.v (.int .i64 0)))), none, 0⟩])
     (.cond 165 (.seq (.reg false [⟨some 6, .mv (.c (.d (.v (.bool false)))), none, 0⟩])
       (.ret))
       (.skip))))))
def K9_7 : CC := .seq (.reg false [⟨some 138, .mv (.t 21), none, 0⟩,
   ⟨some 139, .mv (.t 10), none, 0⟩,
   ⟨some 140, .len (.t 139), none, 0⟩,
   ⟨some 141, .bin .lss (.t 138) (.t 140), none, 0⟩])
 (.cond 141 (.skip)
   (.exit 7))
def L9_8 : CC := .seq K9_7 (.seq K9_6 K9_5)
def K9_9 : CC := .reg false [⟨some 21, .mv (.c (.d (.v (.int .i64 0)))), none, 0⟩]
def L9_10 : CC := .seq (.seq (.reg false [⟨some 123, .mv (.t 20), none, 0⟩,
   ⟨some 124, .mv (.t 17), none, 0⟩,
   ⟨some 125, .len (.t 124), none, 0⟩,
   ⟨some 126, .bin .lss (.t 123) (.t 125), none, 0⟩])
 (.cond 126 (.skip)
   (.exit 5)))
 (.seq (.block 6 (.reg false [⟨some 129, .mv (.t 19), none, 0⟩,
     ⟨some 130, .mv (.t 17), none, 0⟩,
     ⟨some 131, .mv (.t 20), none, 0⟩,
     ⟨some 132, .ixs 1 (.t 130) (.t 131), none, 0⟩,
     ⟨some 133, .ld 1 false (.t 132), none, 0⟩,
     ⟨some 134, .ixs 1 (.t 129) (.t 133), none, 0⟩,
     ⟨some 135, .ld 1 false (.t 134), none, 0⟩,
     ⟨some 136, .bin .add (.t 135) (.c (.d (.v (.int .i64 1)))), none, 0⟩,
     ⟨some 137, .ixs 1 (.t 129) (.t 133), none, 0⟩,
     ⟨none, .st 1 (.t 137) (.t 136), none, 0⟩]))
 (.reg false [⟨some 127, .mv (.t 20), none, 0⟩,
   ⟨some 128, .bin .add (.t 127) (.c (.d (.v (.int .i64 1)))), none, 0⟩,
   ⟨some 20, .mv (.t 128), none, 0⟩]))
def K9_11 : CC := .reg false [⟨some 20, .mv (.c (.d (.v (.int .i64 0)))), none, 0⟩]
def K9_12 : CC := .reg false [⟨some 120, .fa 4 (.t 7), none, 0⟩,
   ⟨some 121, .ld 1 false (.t 120), none, 0⟩,
   ⟨some 122, .mks 3 1 8 (some .i64) [.d (.v (.int .i64 0))] (.t 121), none, 0⟩,
   ⟨some 19, .mv (.t 122), none, 0⟩]
def K9_13 : CC := .seq (.reg false [⟨some 118, .mv (.t 18), none, 0⟩,
   ⟨some 119, .un .not (.t 118), none, 0⟩])
 (.cond 119 (.seq (.reg false [⟨some 6, .mv (.c (.d (.v (.bool false)))), none, 0⟩])
   (.ret))
   (.skip))
def K9_14 : CC := .reg true [⟨some 112, .ld 8 true (.t 7), none, 0⟩,
   ⟨some 113, .mv (.t 8), none, 0⟩,
   ⟨some 114, .call (.c (.fn (.func 33) [] [])) [.t 113], none, 2⟩,
   ⟨some 115, .call (.c (.fn (.func 50) [] [])) [.t 112, .t 114, .c (.d (.v (.bool true)))], none, 7⟩,
   ⟨some 111, .mv (.t 115), none, 15⟩,
   ⟨some 116, .ext 0 (.t 111), none, 31⟩,
   ⟨some 117, .ext 1 (.t 111), none, 31⟩,
   ⟨some 17, .mv (.t 116), none, 63⟩,
   ⟨some 18, .mv (.t 117), none, 255⟩]
def K9_15 : CC := .reg false [⟨some 107, .mv (.t 10), none, 0⟩,
   ⟨some 108, .mv (.t 13), none, 0⟩,
   ⟨some 109, .ld 33 true (.t 14), none, 0⟩,
   ⟨some 110, .ixs 33 (.t 107) (.t 108), none, 0⟩,
   ⟨none, .st 33 (.t 110) (.t 109), none, 0⟩]
def K9_16 : CC := .block 4 (.seq (.reg false [⟨some 89, .mv (.t 15), none, 0⟩,
     ⟨some 90, .eq .int false (.t 89) (.c (.d (.v (.int .i64 1)))), none, 0⟩,
     ⟨some 91, .mv (.t 90), none, 0⟩,
     ⟨some 92, .mv (.t 10), some (91, true), 0⟩,
     ⟨some 93, .mv (.t 13), some (91, true), 0⟩,
     ⟨some 94, .ixs 33 (.t 92) (.t 93), some (91, true), 0⟩,
     ⟨some 95, .fa 0 (.t 94), some (91, true), 0⟩,
     ⟨some 96, .ld 1 false (.t 95), some (91, true), 0⟩,
     ⟨some 97, .eq .int false (.t 96) (.c (.d (.v (.int .i64 22)))), some (91, true), 0⟩,
     ⟨some 98, .pick (.t 91) (.t 97) (.c (.d (.v (.bool false)))), none, 0⟩,
     ⟨some 88, .mv (.t 98), none, 0⟩])
   (.cond 88 (.reg false [⟨some 99, .fa 23 (.t 14), none, 0⟩,
       ⟨some 100, .ld 1 false (.t 99), none, 0⟩,
       ⟨some 101, .conv .i64 (.t 100), none, 0⟩,
       ⟨some 102, .bld [.d (.v (.int .i64 0)), .d (.v (.int .i64 0)), .d (.v (.int .u64 0)), .d (.v (.int .u64 0)), .d (.v (.int .i64 0)), .d (.v (.bool false)), .d (.v (.int .i64 0)), .d (.v (.int .i64 0)), .d (.v (.bool false)), .d (.v (.int .u64 0)), .d (.v (.slice none 0 0)), .d (.v (.int .u64 0)), .d (.v (.slice none 0 0)), .d (.v (.int .u64 0)), .d (.v (.slice none 0 0)), .d (.v (.int .u64 0)), .d (.v (.slice none 0 0)), .d (.v (.slice none 0 0)), .d (.v (.int .i64 0)), .d (.v (.int .i64 0)), .d (.v (.int .i64 0)), .d (.v (.int .i64 0)), .d (.v (.int .i64 0)), .d (.v (.int .u64 0)), .d (.v (.int .u64 0)), .d (.v (.int .u64 0)), .d (.v (.int .u64 0)), .d (.v (.int .u64 0)), .d (.v (.int .i64 0)), .d (.v (.slice none 0 0)), .d (.v (.int .u64 0)), .d (.v (.int .i64 0)), .d (.v (.bool false))] [(0, 1, .c (.d (.v (.int .i64 23)))), (20, 1, .t 101)], none, 0⟩,
       ⟨none, .st 33 (.t 14) (.t 102), none, 0⟩])
     (.seq (.reg false [⟨some 104, .mv (.t 15), none, 0⟩,
       ⟨some 105, .eq .int true (.t 104) (.c (.d (.v (.int .i64 0)))), none, 0⟩,
       ⟨some 103, .mv (.t 105), none, 0⟩])
     (.cond 103 (.reg false [⟨some 106, .bld [.d (.v (.int .i64 0)), .d (.v (.int .i64 0)), .d (.v (.int .u64 0)), .d (.v (.int .u64 0)), .d (.v (.int .i64 0)), .d (.v (.bool false)), .d (.v (.int .i64 0)), .d (.v (.int .i64 0)), .d (.v (.bool false)), .d (.v (.int .u64 0)), .d (.v (.slice none 0 0)), .d (.v (.int .u64 0)), .d (.v (.slice none 0 0)), .d (.v (.int .u64 0)), .d (.v (.slice none 0 0)), .d (.v (.int .u64 0)), .d (.v (.slice none 0 0)), .d (.v (.slice none 0 0)), .d (.v (.int .i64 0)), .d (.v (.int .i64 0)), .d (.v (.int .i64 0)), .d (.v (.int .i64 0)), .d (.v (.int .i64 0)), .d (.v (.int .u64 0)), .d (.v (.int .u64 0)), .d (.v (.int .u64 0)), .d (.v (.int .u64 0)), .d (.v (.int .u64 0)), .d (.v (.int .i64 0)), .d (.v (.slice none 0 0)), .d (.v (.int .u64 0)), .d (.v (.int .i64 0)), .d (.v (.bool false))] [(0, 1, .c (.d (.v (.int .i64 20))))], none, 0⟩,
         ⟨none, .st 33 (.t 14) (.t 106), none, 0⟩])
       (.skip)))))
def K9_17 : CC := .seq (.reg false [⟨some 86, .mv (.t 16), none, 0⟩,
   ⟨some 87, .un .not (.t 86), none, 0⟩])
 (.cond 87 (.seq (.reg false [⟨some 6, .mv (.c (.d (.v (.bool false)))), none, 0⟩])
   (.ret))
   (.skip))
def K9_18 : CC := .reg false [⟨some 77, .mv (.t 8), none, 0⟩,
   ⟨some 78, .mv (.t 10), none, 0⟩,
   ⟨some 79, .mv (.t 13), none, 0⟩,
   ⟨some 80, .ixs 33 (.t 78) (.t 79), none, 0⟩,
   ⟨some 81, .ld 33 true (.t 80), none, 0⟩,
   ⟨some 82, .call (.c (.fn (.func 45) [] [])) [.t 77, .t 81], none, 0⟩,
   ⟨some 76, .mv (.t 82), none, 0⟩,
   ⟨some 83, .ext 0 (.t 76), none, 0⟩,
   ⟨some 84, .ext 1 (.t 76), none, 0⟩,
   ⟨some 85, .ext 2 (.t 76), none, 0⟩,
   ⟨some 14, .newc 73 [.d (.v (.int .i64 0)), .d (.v (.int .i64 0)), .d (.v (.int .u64 0)), .d (.v (.int .u64 0)), .d (.v (.int .i64 0)), .d (.v (.bool false)), .d (.v (.int .i64 0)), .d (.v (.int .i64 0)), .d (.v (.bool false)), .d (.v (.int .u64 0)), .d (.v (.slice none 0 0)), .d (.v (.int .u64 0)), .d (.v (.slice none 0 0)), .d (.v (.int .u64 0)), .d (.v (.slice none 0 0)), .d (.v (.int .u64 0)), .d (.v (.slice none 0 0)), .d (.v (.slice none 0 0)), .d (.v (.int .i64 0)), .d (.v (.int .i64 0)), .d (.v (.int .i64 0)), .d (.v (.int .i64 0)), .d (.v (.int .i64 0)), .d (.v (.int .u64 0)), .d (.v (.int .u64 0)), .d (.v (.int .u64 0)), .d (.v (.int .u64 0)), .d (.v (.int .u64 0)), .d (.v (.int .i64 0)), .d (.v (.slice none 0 0)), .d (.v (.int .u64 0)), .d (.v (.int .i64 0)), .d (.v (.bool false))], none, 0⟩,
   ⟨none, .st 33 (.t 14) (.t 83), none, 0⟩,
   ⟨some 15, .mv (.t 84), none, 0⟩,
   ⟨some 16, .mv (.t 85), none, 0⟩]
def K9_19 : CC := .reg true [⟨some 68, .mv (.t 2), none, 0⟩,
   ⟨some 69, .mv (.t 12), none, 0⟩,
   ⟨some 70, .ixs 1 (.t 68) (.t 69), none, 3⟩,
   ⟨some 71, .ld 1 false (.t 70), none, 7⟩,
   ⟨some 72, .conv .i64 (.t 71), none, 15⟩,
   ⟨some 73, .fa 0 (.t 7), none, 0⟩,
   ⟨some 74, .ld 1 false (.t 73), none, 32⟩,
   ⟨some 75, .bin .rem (.t 72) (.t 74), none, 127⟩,
   ⟨some 13, .mv (.t 75), none, 255⟩]
def K9_20 : CC := .seq (.reg false [⟨some 62, .mv (.t 12), none, 0⟩,
   ⟨some 63, .mv (.t 2), none, 0⟩,
   ⟨some 64, .len (.t 63), none, 0⟩,
   ⟨some 65, .bin .lss (.t 62) (.t 64), none, 0⟩])
 (.cond 65 (.skip)
   (.exit 2))
def L9_21 : CC := .seq K9_20 (.seq (.block 3 (.seq K9_19 (.seq K9_18 (.seq K9_17 (.seq K9_16 (.seq K9_15 (.seq K9_14 (.seq K9_13 (.seq K9_12 (.seq (.seq K9_11 (.block 5 (.loop L9_10))) (.seq (.seq K9_9 (.block 7 (.loop L9_8))) (.seq K9_4 (.block 9 (.loop L9_3)))))))))))))) K9_2)
def K9_22 : CC := .reg false [⟨some 12, .mv (.c (.d (.v (.int .i64 0)))), none, 0⟩]
def L9_23 : CC := .seq (.seq (.reg false [⟨some 52, .mv (.t 11), none, 0⟩,
   ⟨some 53, .mv (.t 10), none, 0⟩,
   ⟨some 54, .len (.t 53), none, 0⟩,
   ⟨some 55, .bin .lss (.t 52) (.t 54), none, 0⟩])
 (.cond 55 (.skip)
   (.exit 0)))
 (.seq (.block 1 (.reg false [⟨some 58, .mv (.t 10), none, 0⟩,
     ⟨some 59, .mv (.t 11), none, 0⟩,
     ⟨some 60, .bld [.d (.v (.int .i64 0)), .d (.v (.int .i64 0)), .d (.v (.int .u64 0)), .d (.v (.int .u64 0)), .d (.v (.int .i64 0)), .d (.v (.bool false)), .d (.v (.int .i64 0)), .d (.v (.int .i64 0)), .d (.v (.bool false)), .d (.v (.int .u64 0)), .d (.v (.slice none 0 0)), .d (.v (.int .u64 0)), .d (.v (.slice none 0 0)), .d (.v (.int .u64 0)), .d (.v (.slice none 0 0)), .d (.v (.int .u64 0)), .d (.v (.slice none 0 0)), .d (.v (.slice none 0 0)), .d (.v (.int .i64 0)), .d (.v (.int .i64 0)), .d (.v (.int .i64 0)), .d (.v (.int .i64 0)), .d (.v (.int .i64 0)), .d (.v (.int .u64 0)), .d (.v (.int .u64 0)), .d (.v (.int .u64 0)), .d (.v (.int .u64 0)), .d (.v (.int .u64 0)), .d (.v (.int .i64 0)), .d (.v (.slice none 0 0)), .d (.v (.int .u64 0)), .d (.v (.int .i64 0)), .d (.v (.bool false))] [(0, 1, .c (.d (.v (.int .i64 20))))], none, 0⟩,
     ⟨some 61, .ixs 33 (.t 58) (.t 59), none, 0⟩,
     ⟨none, .st 33 (.t 61) (.t 60), none, 0⟩]))
 (.reg false [⟨some 56, .mv (.t 11), none, 0⟩,
   ⟨some 57, .bin .add (.t 56) (.c (.d (.v (.int .i64 1)))), none, 0⟩,
   ⟨some 11, .mv (.t 57), none, 0⟩]))
def K9_24 : CC := .reg false [⟨some 11, .mv (.c (.d (.v (.int .i64 0)))), none, 0⟩]
def K9_25 : CC := .reg false [⟨some 49, .fa 0 (.t 7), none, 0⟩,
   ⟨some 50, .ld 1 false (.t 49), none, 0⟩,
   ⟨some 51, .mks 73 33 360 none [.d (.v (.int .i64 0)), .d (.v (.int .i64 0)), .d (.v (.int .u64 0)), .d (.v (.int .u64 0)), .d (.v (.int .i64 0)), .d (.v (.bool false)), .d (.v (.int .i64 0)), .d (.v (.int .i64 0)), .d (.v (.bool false)), .d (.v (.int .u64 0)), .d (.ints .i64 []), .d (.v (.int .u64 0)), .d (.ints .i64 []), .d (.v (.int .u64 0)), .d (.ints .i64 []), .d (.v (.int .u64 0)), .d (.ints .i64 []), .d (.ints .i64 []), .d (.v (.int .i64 0)), .d (.v (.int .i64 0)), .d (.v (.int .i64 0)), .d (.v (.int .i64 0)), .d (.v (.int .i64 0)), .d (.v (.int .u64 0)), .d (.v (.int .u64 0)), .d (.v (.int .u64 0)), .d (.v (.int .u64 0)), .d (.v (.int .u64 0)), .d (.v (.int .i64 0)), .d (.ints .u64 []), .d (.v (.int .u64 0)), .d (.v (.int .i64 0)), .d (.v (.bool false))] (.t 50), none, 0⟩,
   ⟨some 10, .mv (.t 51), none, 0⟩]
def K9_26 : CC := .seq (.reg false [⟨some 43, .mv (.t 9), none, 0⟩,
   ⟨some 44, .eq .int true (.t 43) (.c (.d (.v (.int .i64 0)))), none, 0⟩,
   ⟨some 45, .mv (.t 44), none, 0⟩,
   ⟨some 46, .mv (.t 8), some (45, false), 0⟩,
   ⟨some 47, .eq .ptr false (.t 46) (.c (.d (.v (.pointer none)))), some (45, false), 0⟩,
   ⟨some 48, .pick (.t 45) (.c (.d (.v (.bool true)))) (.t 47), none, 0⟩])
 (.cond 48 (.seq (.reg false [⟨some 6, .mv (.c (.d (.v (.bool false)))), none, 0⟩])
   (.ret))
   (.skip))
def K9_27 : CC := .reg false [⟨some 39, .ld 8 true (.t 7), none, 0⟩,
   ⟨some 40, .call (.c (.fn (.func 34) [] [])) [.t 39], none, 0⟩,
   ⟨some 38, .mv (.t 40), none, 0⟩,
   ⟨some 41, .ext 0 (.t 38), none, 0⟩,
   ⟨some 42, .ext 1 (.t 38), none, 0⟩,
   ⟨some 8, .mv (.t 41), none, 0⟩,
   ⟨some 9, .mv (.t 42), none, 0⟩]
def K9_28 : CC := .seq (.reg false [⟨some 35, .mv (.t 2), none, 0⟩,
   ⟨some 36, .len (.t 35), none, 0⟩,
   ⟨some 37, .bin .gtr (.t 36) (.c (.d (.v (.int .i64 600)))), none, 0⟩])
 (.cond 37 (.seq (.reg false [⟨some 6, .mv (.c (.d (.v (.bool true)))), none, 0⟩])
   (.ret))
   (.skip))
def K9_29 : CC := .reg false [⟨some 26, .mv (.t 0), none, 0⟩,
   ⟨some 27, .conv .i64 (.t 26), none, 0⟩,
   ⟨some 28, .bin .rem (.t 27) (.c (.d (.v (.int .i64 8)))), none, 0⟩,
   ⟨some 29, .bin .add (.c (.d (.v (.int .i64 1)))) (.t 28), none, 0⟩,
   ⟨some 30, .mv (.t 1), none, 0⟩,
   ⟨some 31, .conv .i64 (.t 30), none, 0⟩,
   ⟨some 32, .bin .rem (.t 31) (.c (.d (.v (.int .i64 16)))), none, 0⟩,
   ⟨some 33, .bin .add (.c (.d (.v (.int .i64 1)))) (.t 32), none, 0⟩,
   ⟨some 34, .bld [.d (.v (.int .i64 0)), .d (.v (.int .i64 0)), .d (.v (.int .i64 0)), .d (.v (.int .i64 0)), .d (.v (.int .i64 0)), .d (.v (.int .i64 0)), .d (.v (.int .i64 0)), .d (.v (.int .u64 0))] [(0, 1, .t 29), (1, 1, .c (.d (.v (.int .i64 1)))), (2, 1, .c (.d (.v (.int .i64 1)))), (3, 1, .c (.d (.v (.int .i64 1)))), (4, 1, .t 33), (6, 1, .c (.d (.v (.int .i64 1)))), (7, 1, .c (.d (.v (.int .u64 1))))], none, 0⟩,
   ⟨some 7, .newc 24 [.d (.v (.int .i64 0)), .d (.v (.int .i64 0)), .d (.v (.int .i64 0)), .d (.v (.int .i64 0)), .d (.v (.int .i64 0)), .d (.v (.int .i64 0)), .d (.v (.int .i64 0)), .d (.v (.int .u64 0))], none, 0⟩,
   ⟨none, .st 8 (.t 7) (.t 34), none, 0⟩]
def K9_30 : CC := .seq (.reg false [⟨some 24, .call (.c (.fn (.func 43) [] [])) [], none, 0⟩,
   ⟨some 25, .un .not (.t 24), none, 0⟩])
 (.cond 25 (.seq (.reg false [⟨some 6, .mv (.c (.d (.v (.bool false)))), none, 0⟩])
   (.ret))
   (.skip))
def K9_31 : CC := .reg false [⟨some 6, .mv (.c (.d (.v (.bool false)))), none, 0⟩]
/-- coatcheck/coatchecklaw06.StackMany -/
def C9 : CF := ⟨3, [(6, none)],
 .seq K9_31 (.seq K9_30 (.seq K9_29 (.seq K9_28 (.seq K9_27 (.seq K9_26 (.seq K9_25 (.seq (.seq K9_24 (.block 0 (.loop L9_23))) (.seq (.seq K9_22 (.block 2 (.loop L9_21))) K9_1))))))))⟩
theorem c9 : coF Try.prog Try.f9 = some C9 := by kernel_rfl
def A9 : Ann := { keep := [0, 1, 2, 6, 7, 8, 9, 10, 11, 12, 13, 14, 15, 16, 17, 18, 19, 20, 21, 22, 23, 25, 37, 48, 55, 65, 87, 88, 103, 119, 126, 141, 156, 165, 169, 176], live := [(0, [2, 7, 8, 10, 11]), (2, [2, 7, 8, 10, 12]), (5, [2, 7, 8, 10, 12, 17, 19, 20]), (7, [2, 7, 8, 10, 12, 19, 21]), (9, [2, 7, 8, 10, 12, 19, 23])] }
def E9 {Ω : Type} : Env Ω := econs 33 S33c (econs 34 S34c (econs 43 S43 (econs 45 S45m (econs 50 S50f (enil)))))
theorem e9 : GoodE Try.prog E9 := GoodE.cons g33c (GoodE.cons g34c (GoodE.cons g43 (GoodE.cons g45m (GoodE.cons g50f (GoodE.nil)))))
def Z9_3 {Ω : Type} (it : Itr Ω) (K : SE → SS → Option Ω) : SE → SS → Option Ω := kblk 9 (kblk 3 (kseq it E9 A9 K9_2 2 (K)))
def Z9_8 {Ω : Type} (it : Itr Ω) (K : SE → SS → Option Ω) : SE → SS → Option Ω := kblk 7 (kseq it E9 A9 (.seq K9_4 (.block 9 (.loop L9_3))) 3 (kblk 3 (kseq it E9 A9 K9_2 2 (K))))
def Z9_10 {Ω : Type} (it : Itr Ω) (K : SE → SS → Option Ω) : SE → SS → Option Ω := kblk 5 (kseq it E9 A9 (.seq (.seq K9_9 (.block 7 (.loop L9_8))) (.seq K9_4 (.block 9 (.loop L9_3)))) 3 (kblk 3 (kseq it E9 A9 K9_2 2 (K))))
def Z9_21 {Ω : Type} (it : Itr Ω) (K : SV → SH → Option Ω) : SE → SS → Option Ω := kblk 2 (kseq it E9 A9 K9_1 0 (kfn C9 K))
def Z9_23 {Ω : Type} (it : Itr Ω) (K : SV → SH → Option Ω) : SE → SS → Option Ω := kblk 0 (kseq it E9 A9 (.seq (.seq K9_22 (.block 2 (.loop L9_21))) K9_1) 0 (kfn C9 K))
end Go.Sx.Pr

/- Taking from a free list and putting back, without interference. Plain Lean. -/
namespace Go.Sx.Pr
open Go Go.Sx Go.Sx.Md Go.Proofs

theorem listV_some {c : Cf} {ws : List Int} {en : Bool} {L : List Int} (h : listV c ws en = some L) : chkC c = 0 ∧ (ws.length : Int) = szC c ∧ Chain (nxtV c ws (kindL en)) (topV ws en) L ∧ L.Nodup ∧ (∀ i, i ∈ L → 0 ≤ i ∧ i < manyV c en) ∧ L.length ≤ 128 := by
  unfold listV at h
  cases e : (chkC c == 0) && ((ws.length : Int) == szC c) with
  | false => rw [e] at h; cases h
  | true =>
    rw [e, cond_true] at h
    simp only [Bool.and_eq_true, beq_iff_eq] at e
    obtain ⟨L', h1, h2, h3, h4⟩ := chain_chase (many := manyV c en) (fun i => nxt_lt.1) (by unfold topV; omega) (by simp) (by simp) h
    simp only [List.nil_append] at h1
    subst h1
    obtain ⟨m1, m2⟩ := many_le (en := en) e.1
    refine ⟨e.1, e.2, h2, h3, h4, ?_⟩
    have := nodup_le (E := (manyV c en).toNat) h3 (fun i hi => by have := h4 i hi; omega)
    omega

def headL (en : Bool) : Int := bif en then 2 else 1
/-- A memory of the right size. -/
structure MW (m : Mm) : Prop where
  ok : okM m = true
  sz : (m.ws.length : Int) = szC m.c
theorem MW.chk {m : Mm} (h : MW m) : chkC m.c = 0 := by
  have := h.ok
  simp only [okM, Bool.and_eq_true, beq_iff_eq] at this
  exact this.1
theorem MW.u {m : Mm} (h : MW m) : u64B m.ws = true := by
  have := h.ok
  simp only [okM, Bool.and_eq_true, beq_iff_eq] at this
  exact this.2
theorem MW.len {m : Mm} (h : MW m) : 3 ≤ m.ws.length := by
  have hs := szC_eq h.chk
  have := h.sz
  unfold sizeN at hs; omega
theorem ld_get {m : Mm} {a : Int} (h : Mm.ok m a = true) : mLoadV m a = m.ws.getD a.toNat 0 := by
  unfold mLoadV; rw [h, cond_true]; rfl
theorem ok_nat {m : Mm} {k : Nat} (h : k < m.ws.length) : Mm.ok m (k : Int) = true := inB_of' (by omega) (by omega)
theorem top_ld {m : Mm} (h : MW m) (en : Bool) : topV m.ws en = mLoadV m (headL en) % 4294967296 := by
  have := h.len
  unfold topV
  cases en with
  | true =>
    have e := ld_get (m := m) (a := ((2 : Nat) : Int)) (ok_nat (by omega))
    show m.ws.getD 2 0 % 4294967296 = mLoadV m 2 % 4294967296
    rw [show mLoadV m 2 = m.ws.getD 2 0 from e]
  | false =>
    have e := ld_get (m := m) (a := ((1 : Nat) : Int)) (ok_nat (by omega))
    show m.ws.getD 1 0 % 4294967296 = mLoadV m 1 % 4294967296
    rw [show mLoadV m 1 = m.ws.getD 1 0 from e]
theorem nxt_ld {m : Mm} (h : MW m) {en : Bool} {i : Int} (h0 : 0 ≤ i) (h1 : i < manyV m.c en) : nxtV m.c m.ws (kindL en) i = mLoadV m (adr m.c (kindL en) i) % 4294967296 := by
  unfold nxtV
  rw [ld_get (show Mm.ok m (adr m.c (kindL en) i) = true from inBL h.chk h.sz h0 h1)]
theorem listV_of {c : Cf} {ws : List Int} {en : Bool} {L : List Int} (h0 : chkC c = 0) (h1 : (ws.length : Int) = szC c) (hc : Chain (nxtV c ws (kindL en)) (topV ws en) L) (hd : L.Nodup) (hr : ∀ i, i ∈ L → 0 ≤ i ∧ i < manyV c en) : listV c ws en = some L := by
  unfold listV
  rw [h0, show ((0 : Int) == 0) = true from rfl, beq_iff_eq.2 h1, Bool.and_self, cond_true]
  obtain ⟨m1, m2⟩ := many_le (en := en) h0
  have hl := nodup_le (E := (manyV c en).toNat) hd (fun i hi => by have := hr i hi; omega)
  have := chase_chain (many := manyV c en) (f := (manyV c en).toNat + 1) (out := []) hc (by simpa using hd) hr (by omega)
  simpa using this

theorem MW.of {m m' : Mm} (h : MW m) (hc : m'.c = m.c) (hl : m'.ws.length = m.ws.length) (hok : okM m' = true) : MW m' := ⟨hok, by rw [hl, hc]; exact h.sz⟩

section
variable {m : Mm} {en : Bool} {x : Wk}
end

end Go.Sx.Pr

/- StackMany: what the law counts. Plain Lean. -/
namespace Go.Sx.Pr
open Go Go.Sx Go.Sx.Md Go.Proofs

 noncomputable def one (p : Prop) : Int := @ite Int p (Classical.propDecidable p) 1 0
theorem one_pos {p : Prop} (h : p) : one p = 1 := by unfold one; exact if_pos h
theorem one_neg {p : Prop} (h : ¬ p) : one p = 0 := by unfold one; exact if_neg h
theorem one_iff {p q : Prop} (h : p ↔ q) : one p = one q := by rw [propext h]

structure CI (E : Nat) (hv : List Int) (p : Nat → Prop) : Prop where
  len : hv.length = E
  val : ∀ q, q < E → hv.getD q 0 = one (p q)

theorem set_getD {l : List Int} {i j : Nat} {x : Int} (hi : i < l.length) : (l.set i x).getD j 0 = if j = i then x else l.getD j 0 := by
  simp only [List.getD_eq_getElem?_getD, List.getElem?_set]
  by_cases h : i = j
  · subst h; simp [hi]
  · have : ¬ j = i := fun e => h e.symm
    simp [h, this]

theorem CI.bump {E : Nat} {hv : List Int} {p : Nat → Prop} (p' : Nat → Prop) (h : CI E hv p) {i : Nat} (hi : i < E) (hn : ¬ p i) (hp : ∀ q, p' q ↔ p q ∨ q = i) : CI E (hv.set i (w64' (hv.getD i 0 + 1))) p' := by
  have h0 : hv.getD i 0 = 0 := by rw [h.val i hi]; exact one_neg hn
  refine ⟨by simp [h.len], fun q hq => ?_⟩
  rw [set_getD (by rw [h.len]; exact hi), h0]
  by_cases e : q = i
  · subst e
    rw [if_pos rfl, one_pos ((hp q).2 (.inr rfl))]; rfl
  · rw [if_neg e, h.val q hq]
    exact one_iff ⟨fun r => (hp q).2 (.inl r), fun r => ((hp q).1 r).elim id fun r => absurd r e⟩

/-- A new memory's free entries. -/
theorem chain_from {nx : Int → Int} {E : Nat} (h1 : ∀ i : Nat, i + 1 < E → nx i = (i : Int) + 2) (h2 : ∀ i : Nat, i + 1 = E → nx i = 0) : ∀ (r i : Nat), i + r = E → Chain nx (if r = 0 then 0 else (i : Int) + 1) ((List.range' i r).map fun (k : Nat) => (k : Int))
  | 0, i, _ => rfl
  | r + 1, i, h => by
    rw [List.range'_succ, List.map_cons]
    refine ⟨by simp, ?_⟩
    have ih := chain_from h1 h2 r (i + 1) (by omega)
    by_cases hr : r = 0
    · subst hr
      rw [h2 i (by omega)]
      exact ih
    · rw [if_neg hr] at ih
      rw [h1 i (by omega)]
      rw [show (i : Int) + 2 = ((i + 1 : Nat) : Int) + 1 by push_cast; omega]
      exact ih

theorem flC_get {c : Cf} {i : Nat} (h : i < (flC c).length) : (flC c).getD i 0 = fpart (3 + c.a.toNat + c.b.toNat) c.e.toNat c.e.toNat i := by
  unfold flC at h ⊢
  rw [fl_length] at h
  rw [List.getD_eq_getElem?_getD, List.getElem?_eq_getElem (by rw [fl_length]; exact h)]
  simp [fl]
theorem flC_u64 {c : Cf} (h : chkC c = 0) : u64B (flC c) = true := by
  obtain ⟨⟨a1, a2⟩, ⟨b1, b2⟩, _, _, ⟨e1, e2⟩, _⟩ := chk_zero h
  simp only [u64B, List.all_eq_true, Bool.and_eq_true, decide_eq_true_eq]
  intro x hx
  simp only [flC, fl, List.mem_map, List.mem_range] at hx
  obtain ⟨i, _, rfl⟩ := hx
  unfold fpart
  repeat' split
  all_goals omega
theorem flC_MW {c : Cf} (h : chkC c = 0) : MW ⟨c, ac0, flC c⟩ := ⟨by simp only [okM, flC_u64 h, Bool.and_true, beq_iff_eq]; exact h, flC_len h⟩

theorem start9 {c : Cf} (h : chkC c = 0) {n E : Nat} (hn : c.a = n) (hE : c.e = E) {a : Nat → Wk} (ha : ∀ k, k < n → a k = { wk0 with line := 20 }) : SI n E ⟨c, ac0, flC c⟩ a ((List.range' 0 E).map fun (k : Nat) => (k : Int)) 0 := by
  have hM := flC_MW h
  have hl := flC_len h
  have hs := szC_eq h
  obtain ⟨⟨a1, a2⟩, ⟨b1, b2⟩, ⟨c1, c2⟩, ⟨d1, d2⟩, ⟨e1, e2⟩, _⟩ := chk_zero h
  have hz : (szC c) ≥ 3 + c.a + c.b + 2 * c.e := by
    rw [hs]; unfold sizeN
    push_cast
    have : (0 : Int) ≤ (1 + ((c.d.toNat : Nat) : Int)) * (((c.b.toNat : Nat) : Int) * ((c.c.toNat : Nat) : Int)) := Int.mul_nonneg (by omega) (Int.mul_nonneg (by omega) (by omega))
    omega
  have g : ∀ k : Nat, k < (flC c).length → mLoadV ⟨c, ac0, flC c⟩ (k : Int) = fpart (3 + c.a.toNat + c.b.toNat) c.e.toNat c.e.toNat k := fun k hk => by
    rw [ld_get (ok_nat hk), Int.toNat_natCast]
    exact flC_get hk
  have g2 : mLoadV ⟨c, ac0, flC c⟩ 2 = 1 := by
    rw [show (2 : Int) = ((2 : Nat) : Int) from rfl, g 2 (by omega)]; rfl
  have gn : ∀ i : Nat, i < E → nxE ⟨c, ac0, flC c⟩ (i : Int) = if i + 1 < E then (i : Int) + 2 else 0 := fun i hi => by
    unfold nxE
    rw [adr4 h (by omega) (by show (i : Int) < c.e; omega)]
    show mLoadV ⟨c, ac0, flC c⟩ (3 + c.a + c.b + 2 * i + 1) % 4294967296 = _
    rw [show 3 + c.a + c.b + 2 * (i : Int) + 1 = ((3 + c.a.toNat + c.b.toNat + 2 * i + 1 : Nat) : Int) by push_cast; omega, g _ (by omega)]
    unfold fpart
    rw [if_neg (by omega), if_neg (by omega), if_pos (by omega), if_neg (by omega)]
    rw [show (3 + c.a.toNat + c.b.toNat + 2 * i + 1 - (3 + c.a.toNat + c.b.toNat)) / 2 = i by omega]
    by_cases hi2 : i + 1 < E
    · rw [if_pos (by omega), if_pos hi2]; push_cast; omega
    · rw [if_neg (by omega), if_neg hi2]; rfl
  refine ⟨h, hE, by show _ ≤ ((flC c).length : Int); show 3 + c.a + c.b + 2 * (E : Int) ≤ _; omega, by rw [g2]; decide, by rw [g2]; decide, ?_, ?_, fun i hi => ?_, fun k hk => ?_, fun j k hj hk hne h0 => ?_, fun i i0 i1 => .inl ?_⟩
  · have := chain_from (nx := nxE ⟨c, ac0, flC c⟩) (E := E) (fun i hi => by rw [gn i (by omega), if_pos hi]) (fun i hi => by rw [gn i (by omega), if_neg (by omega)]) E 0 (by omega)
    rw [if_neg (by omega)] at this
    rw [g2]
    exact this
  · rw [List.nodup_iff_pairwise_ne, List.pairwise_map]
    exact (List.nodup_iff_pairwise_ne.1 List.nodup_range').imp fun hne e => hne (by omega)
  · simp only [List.mem_map, List.mem_range'] at hi
    obtain ⟨k, ⟨j, hj, rfl⟩, rfl⟩ := hi
    omega
  · rw [ha k hk]
    exact ⟨by simp [wk0], fun _ => rfl, fun q => by simp [wk0] at q, fun q => by simp [wk0] at q, fun q => by simp [wk0] at q, fun q => by simp [wk0] at q, fun q => by simp [wk0] at q⟩
  · rw [ha j hj] at h0
    exact absurd rfl h0
  · simp only [List.mem_map, List.mem_range']
    exact ⟨i.toNat, ⟨i.toNat, by omega, by omega⟩, by omega⟩
end Go.Sx.Pr
