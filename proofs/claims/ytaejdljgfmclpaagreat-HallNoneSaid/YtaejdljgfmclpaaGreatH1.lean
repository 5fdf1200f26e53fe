/- Pieces of the code of functions, compiled for the symbolic interpreter, each checked against the program; no conditions. -/
import Derived.Test.YtaejdljgfmclpaaGreatSxDat
import Derived.Test.YtaejdljgfmclpaaGreatSxDat
import Derived.Test.YtaejdljgfmclpaaGreatSxDat
import Derived.Test.YtaejdljgfmclpaaGreatQ39
import Derived.Test.YtaejdljgfmclpaaGreatRows
import Derived.Test.YtaejdljgfmclpaaGreatSxDat
import Derived.Test.YtaejdljgfmclpaaGreatQ2
import Derived.Test.YtaejdljgfmclpaaGreatSxDat
import Derived.KernelRfl
set_option linter.all false
set_option linter.unusedVariables false
set_option linter.unusedSimpArgs false
set_option linter.unnecessarySimpa false
namespace Go.Sx.Pr
open Go Go.Sx Go.Proofs
set_option maxRecDepth 100000
/-- (*coatcheck/hall.Hall).there -/
def C1187 : CF := ⟨2, [(4, none)],
 .seq (.reg false [⟨some 4, .mv (.c (.d (.v (.bool false)))), none, 0⟩])
 (.seq (.reg false [⟨some 5, .mv (.t 0), none, 0⟩,
   ⟨some 6, .eq .ptr true (.t 5) (.c (.d (.v (.pointer none)))), none, 0⟩,
   ⟨some 7, .mv (.t 6), none, 0⟩,
   ⟨some 8, .mv (.t 1), some (7, true), 0⟩,
   ⟨some 9, .bin .geq (.t 8) (.c (.d (.v (.int .i64 0)))), some (7, true), 0⟩,
   ⟨some 10, .pick (.t 7) (.t 9) (.c (.d (.v (.bool false)))), none, 0⟩,
   ⟨some 11, .mv (.t 10), none, 0⟩,
   ⟨some 12, .mv (.t 1), some (11, true), 0⟩,
   ⟨some 13, .mv (.t 0), some (11, true), 0⟩,
   ⟨some 14, .nilc (.t 13), some (11, true), 0⟩,
   ⟨some 15, .fa 1 (.t 14), some (11, true), 0⟩,
   ⟨some 16, .ld 1 false (.t 15), some (11, true), 0⟩,
   ⟨some 17, .len (.t 16), some (11, true), 0⟩,
   ⟨some 18, .bin .lss (.t 12) (.t 17), some (11, true), 0⟩,
   ⟨some 19, .pick (.t 11) (.t 18) (.c (.d (.v (.bool false)))), none, 0⟩,
   ⟨some 4, .mv (.t 19), none, 0⟩])
 (.ret))⟩
theorem c1187 : coF Tryz.prog Tryz.f34 = some C1187 := by kernel_rfl
def A1187 : Ann := { keep := [0, 1, 4], live := [] }
def E1187 {Ω : Type} : Env Ω := enil
theorem e1187 : GoodE Tryz.prog E1187 := GoodE.nil
def S1187 {Ω : Type} : Spec Ω := inl E1187 A1187 C1187 false
theorem g1187 : Good1 Tryz.prog 34 S1187 := Good1.inl e1187 mix Tryz.func34 (by kernel_rfl) c1187 A1187 false
/-- (*coatcheck/hall.Hall).Tick -/
def C1176 : CF := ⟨1, [(2, none)],
 .seq (.reg false [⟨some 2, .mv (.c (.d (.v (.int .i64 0)))), none, 0⟩])
 (.seq (.seq (.reg false [⟨some 3, .mv (.t 0), none, 0⟩,
   ⟨some 4, .eq .ptr false (.t 3) (.c (.d (.v (.pointer none)))), none, 0⟩])
 (.cond 4 (.seq (.reg false [⟨some 2, .mv (.c (.d (.v (.int .i64 0)))), none, 0⟩])
   (.ret))
   (.skip)))
 (.seq (.reg false [⟨some 5, .mv (.t 0), none, 0⟩,
   ⟨some 6, .nilc (.t 5), none, 0⟩,
   ⟨some 7, .fa 3 (.t 6), none, 0⟩,
   ⟨some 8, .ld 1 false (.t 7), none, 0⟩,
   ⟨some 2, .mv (.t 8), none, 0⟩])
 (.ret)))⟩
theorem c1176 : coF Tryz.prog Tryz.f12 = some C1176 := by kernel_rfl
def A1176 : Ann := { keep := [0, 2, 4], live := [] }
def E1176 {Ω : Type} : Env Ω := enil
theorem e1176 : GoodE Tryz.prog E1176 := GoodE.nil
def S1176 {Ω : Type} : Spec Ω := inl E1176 A1176 C1176 false
theorem g1176 : Good1 Tryz.prog 12 S1176 := Good1.inl e1176 mix Tryz.func12 (by kernel_rfl) c1176 A1176 false
/-- (*coatcheck/hall.Hall).Told -/
def C1179 : CF := ⟨2, [(4, none)],
 .seq (.reg false [⟨some 4, .mv (.c (.d (.v (.slice none 0 0)))), none, 0⟩])
 (.seq (.seq (.reg false [⟨some 5, .mv (.t 0), none, 0⟩,
   ⟨some 6, .mv (.t 1), none, 0⟩,
   ⟨some 7, .call (.c (.fn (.func 34) [] [])) [.t 5, .t 6], none, 0⟩,
   ⟨some 8, .un .not (.t 7), none, 0⟩])
 (.cond 8 (.seq (.reg false [⟨some 4, .mv (.c (.d (.v (.slice none 0 0)))), none, 0⟩])
   (.ret))
   (.skip)))
 (.seq (.reg false [⟨some 9, .mv (.t 0), none, 0⟩,
   ⟨some 10, .nilc (.t 9), none, 0⟩,
   ⟨some 11, .fa 1 (.t 10), none, 0⟩,
   ⟨some 12, .ld 1 false (.t 11), none, 0⟩,
   ⟨some 13, .mv (.t 1), none, 0⟩,
   ⟨some 14, .ixs 36 (.t 12) (.t 13), none, 0⟩,
   ⟨some 15, .fa 35 (.t 14), none, 0⟩,
   ⟨some 16, .ld 1 false (.t 15), none, 0⟩,
   ⟨some 17, .call (.c (.fn (.func 33) [] [])) [.t 16], none, 0⟩,
   ⟨some 4, .mv (.t 17), none, 0⟩])
 (.ret)))⟩
theorem c1179 : coF Tryz.prog Tryz.f15 = some C1179 := by kernel_rfl
def A1179 : Ann := { keep := [0, 1, 4, 8], live := [] }
def E1179 {Ω : Type} : Env Ω := econs 34 S1187 (econs 33 S65 (enil))
theorem e1179 : GoodE Tryz.prog E1179 := GoodE.cons g1187 (GoodE.cons g65 (GoodE.nil))
def S1179 {Ω : Type} : Spec Ω := inl E1179 A1179 C1179 false
theorem g1179 : Good1 Tryz.prog 15 S1179 := Good1.inl e1179 mix Tryz.func15 (by kernel_rfl) c1179 A1179 false
/-- (*coatcheck/hall.Hall).ticket -/
def C1207 : CF := ⟨2, [(4, none)],
 .seq (.reg false [⟨some 3, .box 37 7 (.t 1), none, 0⟩,
   ⟨some 4, .mv (.c (.d (.v (.int .u64 0)))), none, 0⟩])
 (.seq (.seq (.reg false [⟨some 6, .fa 4 (.t 3), none, 0⟩,
   ⟨some 7, .ld 1 false (.t 6), none, 0⟩,
   ⟨some 8, .un .not (.t 7), none, 0⟩])
 (.cond 8 (.seq (.reg false [⟨some 9, .fa 1 (.t 3), none, 0⟩,
     ⟨some 10, .ld 1 false (.t 9), none, 0⟩,
     ⟨some 4, .mv (.t 10), none, 0⟩])
   (.ret))
   (.skip)))
 (.seq (.seq (.reg false [⟨some 11, .mv (.t 0), none, 0⟩,
   ⟨some 12, .fa 5 (.t 3), none, 0⟩,
   ⟨some 13, .ld 1 false (.t 12), none, 0⟩,
   ⟨some 14, .call (.c (.fn (.func 15) [] [])) [.t 11, .t 13], none, 0⟩,
   ⟨some 5, .mv (.t 14), none, 0⟩])
 (.seq (.reg false [⟨some 15, .fa 6 (.t 3), none, 0⟩,
   ⟨some 16, .ld 1 false (.t 15), none, 0⟩,
   ⟨some 17, .mv (.t 5), none, 0⟩,
   ⟨some 18, .len (.t 17), none, 0⟩,
   ⟨some 19, .bin .lss (.t 16) (.t 18), none, 0⟩])
 (.cond 19 (.seq (.reg false [⟨some 20, .mv (.t 5), none, 0⟩,
     ⟨some 21, .fa 6 (.t 3), none, 0⟩,
     ⟨some 22, .ld 1 false (.t 21), none, 0⟩,
     ⟨some 23, .ixs 1 (.t 20) (.t 22), none, 0⟩,
     ⟨some 24, .ld 1 false (.t 23), none, 0⟩,
     ⟨some 4, .mv (.t 24), none, 0⟩])
   (.ret))
   (.skip))))
 (.seq (.reg false [⟨some 4, .mv (.c (.d (.v (.int .u64 0)))), none, 0⟩])
 (.ret))))⟩
theorem c1207 : coF Tryz.prog Tryz.f59 = some C1207 := by kernel_rfl
def A1207 : Ann := { keep := [0, 1, 3, 4, 5, 8, 19], live := [] }
def E1207 {Ω : Type} : Env Ω := econs 15 S1179 (enil)
theorem e1207 : GoodE Tryz.prog E1207 := GoodE.cons g1179 (GoodE.nil)
/-- The same for an operation that names its ticket itself. -/
def S1207u {Ω : Type} : Spec Ω := pureSpec [.drop, .any] fun xs => match xs with
  | [_, .agg [.d (.v (.int .i64 _)), .d (.v (.int .u64 T)), .d (.v (.int .u64 _)), .d (.v (.int .i64 _)), .d (.v (.bool u)), .d (.v (.int .i64 _)), .d (.v (.int .i64 _))]] => [(!u, .d (.v (.int .u64 T)))]
  | _ => []
theorem g1207u : Good1 Tryz.prog 59 S1207u := pureGoodL Tryz.func59 (by kernel_rfl) c1207 e1207 mix (A := A1207) fun xs r hF => by
  split at hF
  · rename_i x k T X s u b n
    cases u with
    | true => simp [firstP] at hF
    | false =>
      simp only [firstP, Bool.not_false, cond_true, Option.some.injEq] at hF
      subst hF
      refine ⟨[.top, .agg [.d (.v (.int .i64 k)), .d (.v (.int .u64 T)), .d (.v (.int .u64 X)), .d (.v (.int .i64 s)), .d (.v (.bool false)), .d (.v (.int .i64 b)), .d (.v (.int .i64 n))]], .d (.v (.int .u64 T)), .d (.v (.int .u64 T)), [.cells 37 [.d (.v (.int .i64 k)), .d (.v (.int .u64 T)), .d (.v (.int .u64 X)), .d (.v (.int .i64 s)), .d (.v (.bool false)), .d (.v (.int .i64 b)), .d (.v (.int .i64 n))]], fun cx w u hu => ?_, by kernel_rfl, rfl, fun _ _ _ q => q⟩
      match u, hu with
      | v :: vs, hu => simp only [SRepL] at hu ⊢; exact ⟨SRep.anyTop _ _ _, hu.2⟩
      | [], hu => simp [SRepL] at hu
  · cases hF
def K1189_1 : CC := .seq (.seq (.reg false [⟨some 46, .mv (.t 2), none, 0⟩,
   ⟨some 47, .eq .int false (.t 46) (.c (.d (.v (.int .i64 4)))), none, 0⟩])
 (.cond 47 (.reg false [⟨some 48, .fa 29 (.t 10), none, 0⟩,
     ⟨some 49, .ld 1 false (.t 48), none, 0⟩,
     ⟨some 50, .call (.c (.fn (.func 33) [] [])) [.t 49], none, 0⟩,
     ⟨some 51, .fa 4 (.t 11), none, 0⟩,
     ⟨some 52, .fa 9 (.t 51), none, 0⟩,
     ⟨none, .st 1 (.t 52) (.t 50), none, 0⟩])
   (.skip)))
 (.reg true [⟨some 53, .mv (.t 0), none, 0⟩,
   ⟨some 54, .mv (.t 0), none, 0⟩,
   ⟨some 55, .nilc (.t 54), none, 2⟩,
   ⟨some 56, .fa 2 (.t 55), none, 6⟩,
   ⟨some 57, .ld 1 false (.t 56), none, 14⟩,
   ⟨some 58, .ld 20 true (.t 11), none, 0⟩,
   ⟨some 59, .bsl 44 20 1 [.d (.v (.int .i64 0)), .d (.v (.int .i64 0)), .d (.v (.int .i64 0)), .d (.v (.int .i64 0)), .d (.v (.int .i64 0)), .d (.v (.int .u64 0)), .d (.v (.int .u64 0)), .d (.v (.int .i64 0)), .d (.v (.bool false)), .d (.v (.int .i64 0)), .d (.v (.int .i64 0)), .d (.v (.int .u64 0)), .d (.v (.int .i64 0)), .d (.v (.slice none 0 0)), .d (.v (.int .i64 0)), .d (.v (.int .i64 0)), .d (.v (.int .i64 0)), .d (.v (.int .u64 0)), .d (.v (.int .u64 0)), .d (.v (.int .u64 0))] [(0, 20, .t 58)], none, 32⟩,
   ⟨some 60, .app 44 20 176 none (.t 57) (.t 59), none, 126⟩,
   ⟨some 61, .nilc (.t 53), none, 255⟩,
   ⟨some 62, .fa 2 (.t 61), none, 511⟩,
   ⟨none, .st 1 (.t 62) (.t 60), none, 1023⟩])
def K1189_2 : CC := .reg false [⟨some 38, .fa 1 (.t 10), none, 0⟩,
   ⟨some 39, .ld 7 true (.t 38), none, 0⟩,
   ⟨some 40, .fa 30 (.t 10), none, 0⟩,
   ⟨some 41, .ld 1 false (.t 40), none, 0⟩,
   ⟨some 42, .fa 31 (.t 10), none, 0⟩,
   ⟨some 43, .ld 1 false (.t 42), none, 0⟩,
   ⟨some 44, .bld [.d (.v (.int .i64 0)), .d (.v (.int .u64 0)), .d (.v (.int .u64 0)), .d (.v (.int .i64 0)), .d (.v (.bool false)), .d (.v (.int .i64 0)), .d (.v (.int .i64 0)), .d (.v (.int .u64 0)), .d (.v (.int .i64 0)), .d (.v (.slice none 0 0))] [(0, 7, .t 39), (7, 1, .t 41), (8, 1, .t 43)], none, 0⟩,
   ⟨some 45, .fa 4 (.t 11), none, 0⟩,
   ⟨none, .st 10 (.t 45) (.t 44), none, 0⟩]
def K1189_3 : CC := .reg true [⟨some 20, .mv (.t 0), none, 0⟩,
   ⟨some 21, .nilc (.t 20), none, 1⟩,
   ⟨some 22, .fa 3 (.t 21), none, 3⟩,
   ⟨some 23, .ld 1 false (.t 22), none, 7⟩,
   ⟨some 24, .mv (.t 1), none, 0⟩,
   ⟨some 25, .mv (.t 0), none, 0⟩,
   ⟨some 26, .nilc (.t 25), none, 32⟩,
   ⟨some 27, .fa 1 (.t 26), none, 96⟩,
   ⟨some 28, .ld 1 false (.t 27), none, 224⟩,
   ⟨some 29, .mv (.t 1), none, 0⟩,
   ⟨some 30, .ixs 36 (.t 28) (.t 29), none, 992⟩,
   ⟨some 31, .fa 34 (.t 30), none, 2016⟩,
   ⟨some 32, .ld 1 false (.t 31), none, 4064⟩,
   ⟨some 33, .bin .sub (.t 32) (.c (.d (.v (.int .i64 1)))), none, 8160⟩,
   ⟨some 34, .mv (.t 2), none, 0⟩,
   ⟨some 35, .mv (.t 4), none, 0⟩,
   ⟨some 36, .ld 5 true (.t 8), none, 0⟩,
   ⟨some 37, .bld [.d (.v (.int .i64 0)), .d (.v (.int .i64 0)), .d (.v (.int .i64 0)), .d (.v (.int .i64 0)), .d (.v (.int .i64 0)), .d (.v (.int .u64 0)), .d (.v (.int .u64 0)), .d (.v (.int .i64 0)), .d (.v (.bool false)), .d (.v (.int .i64 0)), .d (.v (.int .i64 0)), .d (.v (.int .u64 0)), .d (.v (.int .i64 0)), .d (.v (.slice none 0 0)), .d (.v (.int .i64 0)), .d (.v (.int .i64 0)), .d (.v (.int .i64 0)), .d (.v (.int .u64 0)), .d (.v (.int .u64 0)), .d (.v (.int .u64 0))] [(0, 1, .t 23), (1, 1, .t 24), (2, 1, .t 33), (3, 1, .t 34), (14, 1, .t 35), (15, 5, .t 36)], none, 131071⟩,
   ⟨some 11, .newc 44 [.d (.v (.int .i64 0)), .d (.v (.int .i64 0)), .d (.v (.int .i64 0)), .d (.v (.int .i64 0)), .d (.v (.int .i64 0)), .d (.v (.int .u64 0)), .d (.v (.int .u64 0)), .d (.v (.int .i64 0)), .d (.v (.bool false)), .d (.v (.int .i64 0)), .d (.v (.int .i64 0)), .d (.v (.int .u64 0)), .d (.v (.int .i64 0)), .d (.v (.slice none 0 0)), .d (.v (.int .i64 0)), .d (.v (.int .i64 0)), .d (.v (.int .i64 0)), .d (.v (.int .u64 0)), .d (.v (.int .u64 0)), .d (.v (.int .u64 0))], none, 0⟩,
   ⟨none, .st 20 (.t 11) (.t 37), none, 524287⟩]
def K1189_4 : CC := .reg false [⟨some 12, .mv (.t 0), none, 0⟩,
   ⟨some 13, .nilc (.t 12), none, 0⟩,
   ⟨some 14, .fa 1 (.t 13), none, 0⟩,
   ⟨some 15, .ld 1 false (.t 14), none, 0⟩,
   ⟨some 16, .mv (.t 1), none, 0⟩,
   ⟨some 17, .ixs 36 (.t 15) (.t 16), none, 0⟩,
   ⟨some 18, .fa 0 (.t 17), none, 0⟩,
   ⟨some 19, .ld 33 true (.t 18), none, 0⟩,
   ⟨some 10, .newc 56 [.d (.v (.int .i64 0)), .d (.v (.int .i64 0)), .d (.v (.int .u64 0)), .d (.v (.int .u64 0)), .d (.v (.int .i64 0)), .d (.v (.bool false)), .d (.v (.int .i64 0)), .d (.v (.int .i64 0)), .d (.v (.bool false)), .d (.v (.int .u64 0)), .d (.v (.slice none 0 0)), .d (.v (.int .u64 0)), .d (.v (.slice none 0 0)), .d (.v (.int .u64 0)), .d (.v (.slice none 0 0)), .d (.v (.int .u64 0)), .d (.v (.slice none 0 0)), .d (.v (.slice none 0 0)), .d (.v (.int .i64 0)), .d (.v (.int .i64 0)), .d (.v (.int .i64 0)), .d (.v (.int .i64 0)), .d (.v (.int .i64 0)), .d (.v (.int .u64 0)), .d (.v (.int .u64 0)), .d (.v (.int .u64 0)), .d (.v (.int .u64 0)), .d (.v (.int .u64 0)), .d (.v (.int .i64 0)), .d (.v (.slice none 0 0)), .d (.v (.int .u64 0)), .d (.v (.int .i64 0)), .d (.v (.bool false))], none, 0⟩,
   ⟨none, .st 33 (.t 10) (.t 19), none, 0⟩]
def K1189_5 : CC := .reg false [⟨some 8, .box 42 5 (.t 3), none, 0⟩]
/-- (*coatcheck/hall.Hall).note -/
def C1189 : CF := ⟨5, [],
 .seq K1189_5 (.seq K1189_4 (.seq K1189_3 (.seq K1189_2 K1189_1)))⟩
theorem c1189 : coF Tryz.prog Tryz.f38 = some C1189 := by kernel_rfl
def A1189 : Ann := { keep := [0, 1, 2, 3, 4, 8, 10, 11, 47], live := [] }
def S65p {Ω : Type} : Spec Ω := datSpec S65
theorem g65p : Good1 Tryz.prog 33 S65p := datGood g65
def E1189 {Ω : Type} : Env Ω := econs 33 S65p (enil)
theorem e1189 : GoodE Tryz.prog E1189 := GoodE.cons g65p (GoodE.nil)
def S1189 {Ω : Type} : Spec Ω := inl E1189 A1189 C1189 false
theorem g1189 : Good1 Tryz.prog 38 S1189 := Good1.inl e1189 mix Tryz.func38 (by kernel_rfl) c1189 A1189 false
def K1190_1 : CC := .seq (.reg false [⟨some 4, .mv (.c (.d (.v (.bool false)))), none, 0⟩])
 (.ret)
def K1190_2 : CC := .seq (.seq (.reg false [⟨some 4, .mv (.c (.d (.v (.bool true)))), none, 0⟩])
 (.ret))
 (.exit 0)
def K1190_3 : CC := .seq (.seq (.reg false [⟨some 55, .fa 0 (.t 3), none, 0⟩,
   ⟨some 56, .ld 1 false (.t 55), none, 0⟩,
   ⟨some 57, .eq .int false (.t 56) (.c (.d (.v (.int .i64 0)))), none, 0⟩,
   ⟨some 4, .mv (.t 57), none, 0⟩])
 (.ret))
 (.exit 0)
def K1190_4 : CC := .seq (.seq (.reg false [⟨some 52, .fa 28 (.t 2), none, 0⟩,
   ⟨some 53, .ld 1 false (.t 52), none, 0⟩,
   ⟨some 54, .eq .int false (.t 53) (.c (.d (.v (.int .i64 0)))), none, 0⟩,
   ⟨some 4, .mv (.t 54), none, 0⟩])
 (.ret))
 (.exit 0)
def K1190_5 : CC := .seq (.seq (.reg false [⟨some 49, .fa 0 (.t 3), none, 0⟩,
   ⟨some 50, .ld 1 false (.t 49), none, 0⟩,
   ⟨some 51, .eq .int false (.t 50) (.c (.d (.v (.int .i64 61)))), none, 0⟩,
   ⟨some 4, .mv (.t 51), none, 0⟩])
 (.ret))
 (.exit 0)
def K1190_6 : CC := .seq (.seq (.reg false [⟨some 43, .fa 0 (.t 3), none, 0⟩,
   ⟨some 44, .ld 1 false (.t 43), none, 0⟩,
   ⟨some 45, .fa 0 (.t 2), none, 0⟩,
   ⟨some 46, .ld 1 false (.t 45), none, 0⟩,
   ⟨some 47, .bin .sub (.t 46) (.c (.d (.v (.int .i64 1)))), none, 0⟩,
   ⟨some 48, .eq .int true (.t 44) (.t 47), none, 0⟩,
   ⟨some 4, .mv (.t 48), none, 0⟩])
 (.ret))
 (.exit 0)
def K1190_7 : CC := .seq (.seq (.reg false [⟨some 39, .fa 1 (.t 2), none, 0⟩,
   ⟨some 40, .fa 0 (.t 39), none, 0⟩,
   ⟨some 41, .ld 1 false (.t 40), none, 0⟩,
   ⟨some 42, .eq .int false (.t 41) (.c (.d (.v (.int .i64 2)))), none, 0⟩,
   ⟨some 4, .mv (.t 42), none, 0⟩])
 (.ret))
 (.exit 0)
def K1190_8 : CC := .seq (.seq (.reg false [⟨some 32, .fa 8 (.t 3), none, 0⟩,
   ⟨some 33, .ld 1 false (.t 32), none, 0⟩,
   ⟨some 34, .mv (.t 33), none, 0⟩,
   ⟨some 35, .fa 8 (.t 2), some (34, true), 0⟩,
   ⟨some 36, .ld 1 false (.t 35), some (34, true), 0⟩,
   ⟨some 37, .un .not (.t 36), some (34, true), 0⟩,
   ⟨some 38, .pick (.t 34) (.t 37) (.c (.d (.v (.bool false)))), none, 0⟩,
   ⟨some 4, .mv (.t 38), none, 0⟩])
 (.ret))
 (.exit 0)
def K1190_9 : CC := .block 1 (.seq (.seq (.seq (.reg false [⟨some 16, .eq .int false (.t 14) (.c (.d (.v (.int .i64 3)))), none, 0⟩,
     ⟨some 15, .mv (.t 16), none, 0⟩])
   (.cond 15 (.exit 1)
     (.skip)))
   (.seq (.seq (.reg false [⟨some 18, .eq .int false (.t 14) (.c (.d (.v (.int .i64 90)))), none, 0⟩,
     ⟨some 17, .mv (.t 18), none, 0⟩])
   (.cond 17 (.exit 2)
     (.skip)))
   (.seq (.seq (.seq (.reg false [⟨some 20, .eq .int false (.t 14) (.c (.d (.v (.int .i64 43)))), none, 0⟩,
     ⟨some 19, .mv (.t 20), none, 0⟩])
   (.cond 19 (.skip)
     (.reg false [⟨some 21, .eq .int false (.t 14) (.c (.d (.v (.int .i64 45)))), none, 0⟩,
       ⟨some 19, .mv (.t 21), none, 0⟩])))
   (.cond 19 (.exit 3)
     (.skip)))
   (.seq (.seq (.reg false [⟨some 23, .eq .int false (.t 14) (.c (.d (.v (.int .i64 60)))), none, 0⟩,
     ⟨some 22, .mv (.t 23), none, 0⟩])
   (.cond 22 (.exit 4)
     (.skip)))
   (.seq (.seq (.reg false [⟨some 25, .eq .int false (.t 14) (.c (.d (.v (.int .i64 62)))), none, 0⟩,
     ⟨some 24, .mv (.t 25), none, 0⟩])
   (.cond 24 (.exit 5)
     (.skip)))
   (.seq (.seq (.reg false [⟨some 27, .eq .int false (.t 14) (.c (.d (.v (.int .i64 37)))), none, 0⟩,
     ⟨some 26, .mv (.t 27), none, 0⟩])
   (.cond 26 (.exit 6)
     (.skip)))
   (.seq (.seq (.reg false [⟨some 29, .eq .int false (.t 14) (.c (.d (.v (.int .i64 41)))), none, 0⟩,
     ⟨some 28, .mv (.t 29), none, 0⟩])
   (.cond 28 (.exit 7)
     (.skip)))
   (.seq (.reg false [⟨some 31, .eq .int false (.t 14) (.c (.d (.v (.int .i64 73)))), none, 0⟩,
     ⟨some 30, .mv (.t 31), none, 0⟩])
   (.cond 30 (.exit 8)
     (.skip))))))))))
   (.exit 0))
def K1190_10 : CC := .reg false [⟨some 13, .fa 0 (.t 2), none, 0⟩,
   ⟨some 14, .ld 1 false (.t 13), none, 0⟩]
def K1190_11 : CC := .seq (.reg false [⟨some 5, .fa 31 (.t 2), none, 0⟩,
   ⟨some 6, .ld 1 false (.t 5), none, 0⟩,
   ⟨some 7, .eq .int false (.t 6) (.c (.d (.v (.int .i64 0)))), none, 0⟩,
   ⟨some 8, .mv (.t 7), none, 0⟩,
   ⟨some 9, .fa 31 (.t 3), some (8, true), 0⟩,
   ⟨some 10, .ld 1 false (.t 9), some (8, true), 0⟩,
   ⟨some 11, .eq .int true (.t 10) (.c (.d (.v (.int .i64 0)))), some (8, true), 0⟩,
   ⟨some 12, .pick (.t 8) (.t 11) (.c (.d (.v (.bool false)))), none, 0⟩])
 (.cond 12 (.seq (.reg false [⟨some 4, .mv (.c (.d (.v (.bool true)))), none, 0⟩])
   (.ret))
   (.skip))
def K1190_12 : CC := .reg false [⟨some 2, .box 56 33 (.t 0), none, 0⟩,
   ⟨some 3, .box 56 33 (.t 1), none, 0⟩,
   ⟨some 4, .mv (.c (.d (.v (.bool false)))), none, 0⟩]
/-- coatcheck/hall.point -/
def C1190 : CF := ⟨2, [(4, none)],
 .seq K1190_12 (.seq K1190_11 (.seq (.seq K1190_10 (.block 0 (.seq (.block 8 (.block 7 (.seq (.block 6 (.seq (.block 5 (.seq (.block 4 (.seq (.block 3 (.seq (.block 2 (.seq K1190_9 K1190_8)) K1190_7)) K1190_6)) K1190_5)) K1190_4)) K1190_3))) K1190_2))) K1190_1))⟩
theorem c1190 : coF Tryz.prog Tryz.f39 = some C1190 := by kernel_rfl
def A1190 : Ann := { keep := [0, 1, 2, 3, 4, 12, 14, 15, 17, 19, 22, 24, 26, 28, 30], live := [], kc := [19] }
def E1190 {Ω : Type} : Env Ω := enil
theorem e1190 : GoodE Tryz.prog E1190 := GoodE.nil
def S1190 {Ω : Type} : Spec Ω := inl E1190 A1190 C1190 false
theorem g1190 : Good1 Tryz.prog 39 S1190 := Good1.inl e1190 mix Tryz.func39 (by kernel_rfl) c1190 A1190 false
def K1191_1 : CC := .reg false [⟨some 40, .mv (.t 0), none, 0⟩,
   ⟨some 41, .mv (.t 1), none, 0⟩,
   ⟨some 42, .bld [.d (.v (.int .i64 0)), .d (.v (.int .i64 0)), .d (.v (.int .u64 0)), .d (.v (.int .u64 0)), .d (.v (.int .u64 0))] [], none, 0⟩,
   ⟨some 43, .call (.c (.fn (.func 38) [] [])) [.t 40, .t 41, .c (.d (.v (.int .i64 4))), .t 42, .c (.d (.v (.int .i64 0)))], none, 0⟩]
def K1191_2 : CC := .cond 25 (.reg true [⟨some 26, .mv (.t 4), none, 0⟩,
     ⟨some 27, .mv (.t 4), none, 0⟩,
     ⟨some 28, .nilc (.t 27), none, 2⟩,
     ⟨some 29, .fa 35 (.t 28), none, 6⟩,
     ⟨some 30, .ld 1 false (.t 29), none, 14⟩,
     ⟨some 31, .mv (.t 4), none, 0⟩,
     ⟨some 32, .nilc (.t 31), none, 32⟩,
     ⟨some 33, .fa 0 (.t 32), none, 96⟩,
     ⟨some 34, .fa 30 (.t 33), none, 224⟩,
     ⟨some 35, .ld 1 false (.t 34), none, 480⟩,
     ⟨some 36, .bsl 22 1 1 [.d (.v (.int .u64 0))] [(0, 1, .t 35)], none, 992⟩,
     ⟨some 37, .app 22 1 8 (some .u64) (.t 30) (.t 36), none, 2046⟩,
     ⟨some 38, .nilc (.t 26), none, 4095⟩,
     ⟨some 39, .fa 35 (.t 38), none, 8191⟩,
     ⟨none, .st 1 (.t 39) (.t 37), none, 16383⟩])
   (.skip)
def K1191_3 : CC := .reg false [⟨some 11, .mv (.t 4), none, 0⟩,
   ⟨some 12, .nilc (.t 11), none, 0⟩,
   ⟨some 13, .fa 0 (.t 12), none, 0⟩,
   ⟨some 14, .fa 1 (.t 13), none, 0⟩,
   ⟨some 15, .fa 0 (.t 14), none, 0⟩,
   ⟨some 16, .ld 1 false (.t 15), none, 0⟩,
   ⟨some 17, .eq .int false (.t 16) (.c (.d (.v (.int .i64 3)))), none, 0⟩,
   ⟨some 18, .mv (.t 17), none, 0⟩,
   ⟨some 19, .mv (.t 4), some (18, true), 0⟩,
   ⟨some 20, .nilc (.t 19), some (18, true), 0⟩,
   ⟨some 21, .fa 0 (.t 20), some (18, true), 0⟩,
   ⟨some 22, .fa 31 (.t 21), some (18, true), 0⟩,
   ⟨some 23, .ld 1 false (.t 22), some (18, true), 0⟩,
   ⟨some 24, .eq .int false (.t 23) (.c (.d (.v (.int .i64 0)))), some (18, true), 0⟩,
   ⟨some 25, .pick (.t 18) (.t 24) (.c (.d (.v (.bool false)))), none, 0⟩]
def K1191_4 : CC := .reg false [⟨some 5, .mv (.t 0), none, 0⟩,
   ⟨some 6, .nilc (.t 5), none, 0⟩,
   ⟨some 7, .fa 1 (.t 6), none, 0⟩,
   ⟨some 8, .ld 1 false (.t 7), none, 0⟩,
   ⟨some 9, .mv (.t 1), none, 0⟩,
   ⟨some 10, .ixs 36 (.t 8) (.t 9), none, 0⟩,
   ⟨some 4, .mv (.t 10), none, 0⟩]
/-- (*coatcheck/hall.Hall).over -/
def C1191 : CF := ⟨2, [],
 .seq K1191_4 (.seq (.seq K1191_3 K1191_2) K1191_1)⟩
theorem c1191 : coF Tryz.prog Tryz.f40 = some C1191 := by kernel_rfl
def A1191 : Ann := { keep := [0, 1, 4, 25], live := [] }
def E1191 {Ω : Type} : Env Ω := econs 38 S1189 (enil)
theorem e1191 : GoodE Tryz.prog E1191 := GoodE.cons g1189 (GoodE.nil)
def S1191 {Ω : Type} : Spec Ω := inl E1191 A1191 C1191 false
theorem g1191 : Good1 Tryz.prog 40 S1191 := Good1.inl e1191 mix Tryz.func40 (by kernel_rfl) c1191 A1191 false
def K1188_1 : CC := .seq (.reg false [⟨some 69, .mv (.t 0), none, 0⟩,
   ⟨some 70, .mv (.t 1), none, 0⟩,
   ⟨some 71, .bld [.d (.v (.int .i64 0)), .d (.v (.int .i64 0)), .d (.v (.int .u64 0)), .d (.v (.int .u64 0)), .d (.v (.int .u64 0))] [], none, 0⟩,
   ⟨some 72, .call (.c (.fn (.func 38) [] [])) [.t 69, .t 70, .c (.d (.v (.int .i64 1))), .t 71, .c (.d (.v (.int .i64 0)))], none, 0⟩])
 (.seq (.reg false [⟨some 73, .mv (.t 4), none, 0⟩,
   ⟨some 74, .mv (.t 6), none, 0⟩,
   ⟨some 75, .nilc (.t 73), none, 0⟩,
   ⟨some 76, .fa 0 (.t 75), none, 0⟩,
   ⟨some 77, .fa 31 (.t 76), none, 0⟩,
   ⟨none, .st 1 (.t 77) (.t 74), none, 0⟩])
 (.seq (.reg false [⟨some 78, .mv (.t 4), none, 0⟩,
   ⟨some 79, .nilc (.t 78), none, 0⟩,
   ⟨some 80, .fa 0 (.t 79), none, 0⟩,
   ⟨some 81, .ld 33 true (.t 80), none, 0⟩,
   ⟨some 82, .call (.c (.fn (.func 35) [] [])) [.t 81], none, 0⟩])
 (.cond 82 (.seq (.reg false [⟨some 83, .mv (.t 0), none, 0⟩,
     ⟨some 84, .mv (.t 1), none, 0⟩,
     ⟨some 85, .bld [.d (.v (.int .i64 0)), .d (.v (.int .i64 0)), .d (.v (.int .u64 0)), .d (.v (.int .u64 0)), .d (.v (.int .u64 0))] [], none, 0⟩,
     ⟨some 86, .call (.c (.fn (.func 38) [] [])) [.t 83, .t 84, .c (.d (.v (.int .i64 3))), .t 85, .c (.d (.v (.int .i64 0)))], none, 0⟩])
   (.reg false [⟨some 87, .mv (.t 0), none, 0⟩,
     ⟨some 88, .mv (.t 1), none, 0⟩,
     ⟨some 89, .call (.c (.fn (.func 40) [] [])) [.t 87, .t 88], none, 0⟩]))
   (.skip))))
def K1188_2 : CC := .reg false [⟨some 65, .mv (.t 4), none, 0⟩,
   ⟨some 66, .nilc (.t 65), none, 0⟩,
   ⟨some 67, .fa 0 (.t 66), none, 0⟩,
   ⟨some 68, .fa 31 (.t 67), none, 0⟩,
   ⟨none, .st 1 (.t 68) (.c (.d (.v (.int .i64 0)))), none, 0⟩]
def K1188_3 : CC := .reg false [⟨some 60, .mv (.t 4), none, 0⟩,
   ⟨some 61, .nilc (.t 60), none, 0⟩,
   ⟨some 62, .fa 0 (.t 61), none, 0⟩,
   ⟨some 63, .fa 31 (.t 62), none, 0⟩,
   ⟨some 64, .ld 1 false (.t 63), none, 0⟩,
   ⟨some 6, .mv (.t 64), none, 0⟩]
def K1188_4 : CC := .reg true [⟨some 40, .mv (.t 4), none, 0⟩,
   ⟨some 41, .mv (.t 0), none, 0⟩,
   ⟨some 42, .nilc (.t 41), none, 2⟩,
   ⟨some 43, .fa 0 (.t 42), none, 6⟩,
   ⟨some 44, .ld 1 false (.t 43), none, 14⟩,
   ⟨some 45, .nilc (.t 44), none, 30⟩,
   ⟨some 46, .fa 0 (.t 45), none, 62⟩,
   ⟨some 47, .fa 0 (.t 46), none, 126⟩,
   ⟨some 48, .ld 8 true (.t 47), none, 254⟩,
   ⟨some 49, .mv (.t 4), none, 0⟩,
   ⟨some 50, .nilc (.t 49), none, 512⟩,
   ⟨some 51, .fa 0 (.t 50), none, 1536⟩,
   ⟨some 52, .ld 33 true (.t 51), none, 3584⟩,
   ⟨some 53, .ld 7 true (.t 5), none, 0⟩,
   ⟨some 54, .mv (.t 0), none, 0⟩,
   ⟨some 55, .ld 7 true (.t 5), none, 0⟩,
   ⟨some 56, .call (.c (.fn (.func 59) [] [])) [.t 54, .t 55], none, 49152⟩,
   ⟨some 57, .call (.c (.fn (.func 58) [] [])) [.t 48, .t 52, .t 53, .t 56], none, 131070⟩,
   ⟨some 58, .nilc (.t 40), none, 262143⟩,
   ⟨some 59, .fa 0 (.t 58), none, 524287⟩,
   ⟨none, .st 33 (.t 59) (.t 57), none, 1048575⟩]
def K1188_5 : CC := .reg false [⟨some 33, .mv (.t 4), none, 0⟩,
   ⟨some 34, .nilc (.t 33), none, 0⟩,
   ⟨some 35, .fa 34 (.t 34), none, 0⟩,
   ⟨some 36, .ld 1 false (.t 35), none, 0⟩,
   ⟨some 37, .bin .add (.t 36) (.c (.d (.v (.int .i64 1)))), none, 0⟩,
   ⟨some 38, .nilc (.t 33), none, 0⟩,
   ⟨some 39, .fa 34 (.t 38), none, 0⟩,
   ⟨none, .st 1 (.t 39) (.t 37), none, 0⟩]
def K1188_6 : CC := .reg true [⟨some 23, .mv (.t 4), none, 0⟩,
   ⟨some 24, .nilc (.t 23), none, 1⟩,
   ⟨some 25, .fa 33 (.t 24), none, 3⟩,
   ⟨some 26, .ld 1 false (.t 25), none, 7⟩,
   ⟨some 27, .mv (.t 4), none, 0⟩,
   ⟨some 28, .nilc (.t 27), none, 16⟩,
   ⟨some 29, .fa 34 (.t 28), none, 48⟩,
   ⟨some 30, .ld 1 false (.t 29), none, 112⟩,
   ⟨some 31, .ixs 7 (.t 26) (.t 30), none, 255⟩,
   ⟨some 32, .ld 7 true (.t 31), none, 511⟩,
   ⟨some 5, .newc 37 [.d (.v (.int .i64 0)), .d (.v (.int .u64 0)), .d (.v (.int .u64 0)), .d (.v (.int .i64 0)), .d (.v (.bool false)), .d (.v (.int .i64 0)), .d (.v (.int .i64 0))], none, 0⟩,
   ⟨none, .st 7 (.t 5) (.t 32), none, 2047⟩]
def K1188_7 : CC := .seq (.reg true [⟨some 13, .mv (.t 4), none, 0⟩,
   ⟨some 14, .nilc (.t 13), none, 1⟩,
   ⟨some 15, .fa 34 (.t 14), none, 3⟩,
   ⟨some 16, .ld 1 false (.t 15), none, 7⟩,
   ⟨some 17, .mv (.t 4), none, 0⟩,
   ⟨some 18, .nilc (.t 17), none, 16⟩,
   ⟨some 19, .fa 33 (.t 18), none, 48⟩,
   ⟨some 20, .ld 1 false (.t 19), none, 112⟩,
   ⟨some 21, .len (.t 20), none, 240⟩,
   ⟨some 22, .bin .geq (.t 16) (.t 21), none, 511⟩])
 (.cond 22 (.ret)
   (.skip))
def K1188_8 : CC := .reg false [⟨some 7, .mv (.t 0), none, 0⟩,
   ⟨some 8, .nilc (.t 7), none, 0⟩,
   ⟨some 9, .fa 1 (.t 8), none, 0⟩,
   ⟨some 10, .ld 1 false (.t 9), none, 0⟩,
   ⟨some 11, .mv (.t 1), none, 0⟩,
   ⟨some 12, .ixs 36 (.t 10) (.t 11), none, 0⟩,
   ⟨some 4, .mv (.t 12), none, 0⟩]
/-- (*coatcheck/hall.Hall).begin -/
def C1188 : CF := ⟨2, [],
 .seq K1188_8 (.seq K1188_7 (.seq K1188_6 (.seq K1188_5 (.seq K1188_4 (.seq K1188_3 (.seq K1188_2 K1188_1))))))⟩
theorem c1188 : coF Tryz.prog Tryz.f36 = some C1188 := by kernel_rfl
def A1188 : Ann := { keep := [0, 1, 4, 5, 6, 22, 82], live := [] }
def E1188 {Ω : Type} : Env Ω := econs 35 S1125 (econs 38 S1189 (econs 40 S1191 (econs 58 S1119 (econs 59 S1207u (enil)))))
theorem e1188 : GoodE Tryz.prog E1188 := GoodE.cons g1125 (GoodE.cons g1189 (GoodE.cons g1191 (GoodE.cons g1119 (GoodE.cons g1207u (GoodE.nil)))))
def S1188 {Ω : Type} : Spec Ω := inl E1188 A1188 C1188 false
theorem g1188 : Good1 Tryz.prog 36 S1188 := Good1.inl e1188 mix Tryz.func36 (by kernel_rfl) c1188 A1188 false
def K1173_1 : CC := .seq (.reg true [⟨some 58, .mv (.t 0), none, 0⟩,
   ⟨some 59, .mv (.t 1), none, 0⟩,
   ⟨some 60, .mv (.t 0), none, 0⟩,
   ⟨some 61, .nilc (.t 60), none, 4⟩,
   ⟨some 62, .fa 0 (.t 61), none, 12⟩,
   ⟨some 63, .ld 1 false (.t 62), none, 28⟩,
   ⟨some 64, .nilc (.t 63), none, 60⟩,
   ⟨some 65, .fa 8 (.t 64), none, 124⟩,
   ⟨some 66, .ld 5 true (.t 65), none, 252⟩,
   ⟨some 67, .fa 0 (.t 4), none, 0⟩,
   ⟨some 68, .ld 1 false (.t 67), none, 512⟩,
   ⟨some 69, .call (.c (.fn (.func 38) [] [])) [.t 58, .t 59, .c (.d (.v (.int .i64 2))), .t 66, .t 68], none, 2047⟩])
 (.seq (.seq (.reg false [⟨some 70, .ld 33 true (.t 4), none, 0⟩,
   ⟨some 71, .ld 33 true (.t 5), none, 0⟩,
   ⟨some 72, .call (.c (.fn (.func 39) [] [])) [.t 70, .t 71], none, 0⟩])
 (.cond 72 (.reg false [⟨some 73, .mv (.t 0), none, 0⟩,
     ⟨some 74, .mv (.t 1), none, 0⟩,
     ⟨some 75, .bld [.d (.v (.int .i64 0)), .d (.v (.int .i64 0)), .d (.v (.int .u64 0)), .d (.v (.int .u64 0)), .d (.v (.int .u64 0))] [], none, 0⟩,
     ⟨some 76, .call (.c (.fn (.func 38) [] [])) [.t 73, .t 74, .c (.d (.v (.int .i64 3))), .t 75, .c (.d (.v (.int .i64 0)))], none, 0⟩])
   (.skip)))
 (.seq (.reg false [⟨some 77, .ld 33 true (.t 5), none, 0⟩,
   ⟨some 78, .call (.c (.fn (.func 35) [] [])) [.t 77], none, 0⟩])
 (.cond 78 (.reg false [⟨some 79, .mv (.t 0), none, 0⟩,
     ⟨some 80, .mv (.t 1), none, 0⟩,
     ⟨some 81, .call (.c (.fn (.func 40) [] [])) [.t 79, .t 80], none, 0⟩])
   (.skip))))
def K1173_2 : CC := .reg true [⟨some 50, .mv (.t 0), none, 0⟩,
   ⟨some 51, .nilc (.t 50), none, 1⟩,
   ⟨some 52, .fa 1 (.t 51), none, 3⟩,
   ⟨some 53, .ld 1 false (.t 52), none, 7⟩,
   ⟨some 54, .mv (.t 1), none, 0⟩,
   ⟨some 55, .ld 33 true (.t 5), none, 0⟩,
   ⟨some 56, .ixs 36 (.t 53) (.t 54), none, 63⟩,
   ⟨some 57, .fa 0 (.t 56), none, 127⟩,
   ⟨none, .st 33 (.t 57) (.t 55), none, 255⟩]
def K1173_3 : CC := .reg true [⟨some 41, .mv (.t 0), none, 0⟩,
   ⟨some 42, .nilc (.t 41), none, 1⟩,
   ⟨some 43, .fa 0 (.t 42), none, 3⟩,
   ⟨some 44, .ld 1 false (.t 43), none, 7⟩,
   ⟨some 45, .mv (.t 1), none, 0⟩,
   ⟨some 46, .ld 33 true (.t 4), none, 0⟩,
   ⟨some 47, .call (.c (.fn (.func 37) [] [])) [.t 44, .t 45, .t 46], none, 63⟩,
   ⟨some 40, .mv (.t 47), none, 127⟩,
   ⟨some 48, .ext 0 (.t 40), none, 255⟩,
   ⟨some 49, .ext 1 (.t 40), none, 255⟩,
   ⟨some 5, .newc 56 [.d (.v (.int .i64 0)), .d (.v (.int .i64 0)), .d (.v (.int .u64 0)), .d (.v (.int .u64 0)), .d (.v (.int .i64 0)), .d (.v (.bool false)), .d (.v (.int .i64 0)), .d (.v (.int .i64 0)), .d (.v (.bool false)), .d (.v (.int .u64 0)), .d (.v (.slice none 0 0)), .d (.v (.int .u64 0)), .d (.v (.slice none 0 0)), .d (.v (.int .u64 0)), .d (.v (.slice none 0 0)), .d (.v (.int .u64 0)), .d (.v (.slice none 0 0)), .d (.v (.slice none 0 0)), .d (.v (.int .i64 0)), .d (.v (.int .i64 0)), .d (.v (.int .i64 0)), .d (.v (.int .i64 0)), .d (.v (.int .i64 0)), .d (.v (.int .u64 0)), .d (.v (.int .u64 0)), .d (.v (.int .u64 0)), .d (.v (.int .u64 0)), .d (.v (.int .u64 0)), .d (.v (.int .i64 0)), .d (.v (.slice none 0 0)), .d (.v (.int .u64 0)), .d (.v (.int .i64 0)), .d (.v (.bool false))], none, 0⟩,
   ⟨none, .st 33 (.t 5) (.t 48), none, 1535⟩,
   ⟨some 6, .mv (.t 49), none, 4095⟩]
def K1173_4 : CC := .reg false [⟨some 32, .mv (.t 0), none, 0⟩,
   ⟨some 33, .nilc (.t 32), none, 0⟩,
   ⟨some 34, .fa 1 (.t 33), none, 0⟩,
   ⟨some 35, .ld 1 false (.t 34), none, 0⟩,
   ⟨some 36, .mv (.t 1), none, 0⟩,
   ⟨some 37, .ixs 36 (.t 35) (.t 36), none, 0⟩,
   ⟨some 38, .fa 0 (.t 37), none, 0⟩,
   ⟨some 39, .ld 33 true (.t 38), none, 0⟩,
   ⟨some 4, .newc 56 [.d (.v (.int .i64 0)), .d (.v (.int .i64 0)), .d (.v (.int .u64 0)), .d (.v (.int .u64 0)), .d (.v (.int .i64 0)), .d (.v (.bool false)), .d (.v (.int .i64 0)), .d (.v (.int .i64 0)), .d (.v (.bool false)), .d (.v (.int .u64 0)), .d (.v (.slice none 0 0)), .d (.v (.int .u64 0)), .d (.v (.slice none 0 0)), .d (.v (.int .u64 0)), .d (.v (.slice none 0 0)), .d (.v (.int .u64 0)), .d (.v (.slice none 0 0)), .d (.v (.slice none 0 0)), .d (.v (.int .i64 0)), .d (.v (.int .i64 0)), .d (.v (.int .i64 0)), .d (.v (.int .i64 0)), .d (.v (.int .i64 0)), .d (.v (.int .u64 0)), .d (.v (.int .u64 0)), .d (.v (.int .u64 0)), .d (.v (.int .u64 0)), .d (.v (.int .u64 0)), .d (.v (.int .i64 0)), .d (.v (.slice none 0 0)), .d (.v (.int .u64 0)), .d (.v (.int .i64 0)), .d (.v (.bool false))], none, 0⟩,
   ⟨none, .st 33 (.t 4) (.t 39), none, 0⟩]
def K1173_5 : CC := .seq (.reg false [⟨some 20, .mv (.t 0), none, 0⟩,
   ⟨some 21, .nilc (.t 20), none, 0⟩,
   ⟨some 22, .fa 1 (.t 21), none, 0⟩,
   ⟨some 23, .ld 1 false (.t 22), none, 0⟩,
   ⟨some 24, .mv (.t 1), none, 0⟩,
   ⟨some 25, .ixs 36 (.t 23) (.t 24), none, 0⟩,
   ⟨some 26, .fa 0 (.t 25), none, 0⟩,
   ⟨some 27, .ld 33 true (.t 26), none, 0⟩,
   ⟨some 28, .call (.c (.fn (.func 35) [] [])) [.t 27], none, 0⟩])
 (.cond 28 (.seq (.reg false [⟨some 29, .mv (.t 0), none, 0⟩,
     ⟨some 30, .mv (.t 1), none, 0⟩,
     ⟨some 31, .call (.c (.fn (.func 36) [] [])) [.t 29, .t 30], none, 0⟩])
   (.ret))
   (.skip))
def K1173_6 : CC := .seq (.reg false [⟨some 16, .mv (.t 0), none, 0⟩,
   ⟨some 17, .mv (.t 1), none, 0⟩,
   ⟨some 18, .call (.c (.fn (.func 34) [] [])) [.t 16, .t 17], none, 0⟩,
   ⟨some 19, .un .not (.t 18), none, 0⟩])
 (.cond 19 (.ret)
   (.skip))
def K1173_7 : CC := .reg false [⟨some 9, .mv (.t 0), none, 0⟩,
   ⟨some 10, .nilc (.t 9), none, 0⟩,
   ⟨some 11, .fa 3 (.t 10), none, 0⟩,
   ⟨some 12, .ld 1 false (.t 11), none, 0⟩,
   ⟨some 13, .bin .add (.t 12) (.c (.d (.v (.int .i64 1)))), none, 0⟩,
   ⟨some 14, .nilc (.t 9), none, 0⟩,
   ⟨some 15, .fa 3 (.t 14), none, 0⟩,
   ⟨none, .st 1 (.t 15) (.t 13), none, 0⟩]
def K1173_8 : CC := .seq (.reg false [⟨some 7, .mv (.t 0), none, 0⟩,
   ⟨some 8, .eq .ptr false (.t 7) (.c (.d (.v (.pointer none)))), none, 0⟩])
 (.cond 8 (.ret)
   (.skip))
/-- (*coatcheck/hall.Hall).Pick -/
def C1173 : CF := ⟨2, [],
 .seq K1173_8 (.seq K1173_7 (.seq K1173_6 (.seq K1173_5 (.seq K1173_4 (.seq K1173_3 (.seq K1173_2 K1173_1))))))⟩
theorem c1173 : coF Tryz.prog Tryz.f11 = some C1173 := by kernel_rfl
def A1173 : Ann := { keep := [0, 1, 4, 5, 8, 19, 28, 72, 78], live := [] }
def E1173 {Ω : Type} : Env Ω := econs 34 S1187 (econs 35 S1125 (econs 36 S1188 (econs 37 S1126 (econs 38 S1189 (econs 39 S1190 (econs 40 S1191 (enil)))))))
theorem e1173 : GoodE Tryz.prog E1173 := GoodE.cons g1187 (GoodE.cons g1125 (GoodE.cons g1188 (GoodE.cons g1126 (GoodE.cons g1189 (GoodE.cons g1190 (GoodE.cons g1191 (GoodE.nil)))))))
def S1173 {Ω : Type} : Spec Ω := inl E1173 A1173 C1173 false
theorem g1173 : Good1 Tryz.prog 11 S1173 := Good1.inl e1173 mix Tryz.func11 (by kernel_rfl) c1173 A1173 false
def L1174_1 : CC := .seq (.reg false [⟨some 9, .bin .lss (.t 8) (.t 7), none, 0⟩])
 (.seq (.cond 9 (.skip)
   (.exit 0))
 (.seq (.block 1 (.seq (.reg false [⟨some 10, .ixs 1 (.t 6) (.t 8), none, 0⟩,
     ⟨some 11, .ld 1 false (.t 10), none, 0⟩,
     ⟨some 5, .mv (.t 11), none, 0⟩])
   (.reg false [⟨some 12, .mv (.t 0), none, 0⟩,
     ⟨some 13, .mv (.t 5), none, 0⟩,
     ⟨some 14, .call (.c (.fn (.func 11) [] [])) [.t 12, .t 13], none, 0⟩])))
 (.reg false [⟨some 15, .bin .add (.t 8) (.c (.d (.v (.int .i64 1)))), none, 0⟩,
   ⟨some 8, .mv (.t 15), none, 0⟩])))
def K1174_2 : CC := .reg false [⟨some 6, .mv (.t 1), none, 0⟩,
   ⟨some 7, .len (.t 6), none, 0⟩,
   ⟨some 8, .mv (.c (.d (.v (.int .i64 0)))), none, 0⟩]
/-- (*coatcheck/hall.Hall).Run -/
def C1174 : CF := ⟨2, [],
 .seq K1174_2 (.block 0 (.loop L1174_1))⟩
theorem c1174 : coF Tryz.prog Tryz.f9 = some C1174 := by kernel_rfl
def A1174 : Ann := { keep := [0, 1, 5, 6, 7, 8, 9], live := [(0, [0, 6, 7, 8])] }
def E1174 {Ω : Type} : Env Ω := econs 11 S1173 (enil)
theorem e1174 : GoodE Tryz.prog E1174 := GoodE.cons g1173 (GoodE.nil)
def S1174 {Ω : Type} : Spec Ω := inl E1174 A1174 C1174 false
theorem g1174 : Good1 Tryz.prog 9 S1174 := Good1.inl e1174 mix Tryz.func9 (by kernel_rfl) c1174 A1174 false
/-- slices.Clone[[]coatcheck/api.Event,coatcheck/api.Event] -/
def C1192 : CF := ⟨1, [(2, none)],
 .seq (.reg false [⟨some 2, .mv (.c (.d (.v (.slice none 0 0)))), none, 0⟩])
 (.seq (.seq (.reg false [⟨some 3, .mv (.t 0), none, 0⟩,
   ⟨some 4, .eq .slc false (.t 3) (.c (.d (.v (.slice none 0 0)))), none, 0⟩])
 (.cond 4 (.seq (.reg false [⟨some 2, .mv (.c (.d (.v (.slice none 0 0)))), none, 0⟩])
   (.ret))
   (.skip)))
 (.seq (.reg false [⟨some 5, .bsl 44 20 0 [.d (.v (.int .i64 0)), .d (.v (.int .i64 0)), .d (.v (.int .i64 0)), .d (.v (.int .i64 0)), .d (.v (.int .i64 0)), .d (.v (.int .u64 0)), .d (.v (.int .u64 0)), .d (.v (.int .i64 0)), .d (.v (.bool false)), .d (.v (.int .i64 0)), .d (.v (.int .i64 0)), .d (.v (.int .u64 0)), .d (.v (.int .i64 0)), .d (.v (.slice none 0 0)), .d (.v (.int .i64 0)), .d (.v (.int .i64 0)), .d (.v (.int .i64 0)), .d (.v (.int .u64 0)), .d (.v (.int .u64 0)), .d (.v (.int .u64 0))] [], none, 0⟩,
   ⟨some 6, .mv (.t 0), none, 0⟩,
   ⟨some 7, .app 44 20 176 none (.t 5) (.t 6), none, 0⟩,
   ⟨some 2, .mv (.t 7), none, 0⟩])
 (.ret)))⟩
theorem c1192 : coF Tryz.prog Tryz.f32 = some C1192 := by kernel_rfl
def A1192 : Ann := { keep := [0, 2, 4], live := [] }
def E1192 {Ω : Type} : Env Ω := enil
theorem e1192 : GoodE Tryz.prog E1192 := GoodE.nil
/-- The same, of any row. -/
def S1192r {Ω : Type} : Spec Ω := sCloneR 44 20 176
theorem g1192r : Good1 Tryz.prog 32 S1192r := cloneR_good (by decide) Tryz.func32 (by kernel_rfl) c1192 (A := A1192) e1192 mix (fun cc => by kernel_rfl) (fun a c => ⟨[.dead, .row 44 20 0 (catF 0 (fun i j => lkD [] (i * 20 + j)) (fun _ _ => .v undef))], 1, _, by kernel_rfl, rfl⟩) (fun n f => ⟨[.dead, .row 44 20 (0 + (n + 1)) (catF 0 (fun i j => lkD [] (i * 20 + j)) f)], 1, _, by kernel_rfl, rfl, fun i j => rfl⟩)
def K1175_1 : CC := .seq (.reg false [⟨some 30, .mv (.t 3), none, 0⟩,
   ⟨some 2, .mv (.t 30), none, 0⟩])
 (.ret)
def L1175_2 : CC := .seq (.reg false [⟨some 15, .bin .lss (.t 14) (.t 13), none, 0⟩])
 (.seq (.cond 15 (.skip)
   (.exit 0))
 (.seq (.block 1 (.seq (.reg false [⟨some 16, .mv (.t 14), none, 0⟩,
     ⟨some 4, .mv (.t 16), none, 0⟩])
   (.reg false [⟨some 17, .mv (.t 3), none, 0⟩,
     ⟨some 18, .mv (.t 4), none, 0⟩,
     ⟨some 19, .mv (.t 3), none, 0⟩,
     ⟨some 20, .mv (.t 4), none, 0⟩,
     ⟨some 21, .ixs 20 (.t 19) (.t 20), none, 0⟩,
     ⟨some 22, .fa 4 (.t 21), none, 0⟩,
     ⟨some 23, .fa 9 (.t 22), none, 0⟩,
     ⟨some 24, .ld 1 false (.t 23), none, 0⟩,
     ⟨some 25, .call (.c (.fn (.func 33) [] [])) [.t 24], none, 0⟩,
     ⟨some 26, .ixs 20 (.t 17) (.t 18), none, 0⟩,
     ⟨some 27, .fa 4 (.t 26), none, 0⟩,
     ⟨some 28, .fa 9 (.t 27), none, 0⟩,
     ⟨none, .st 1 (.t 28) (.t 25), none, 0⟩])))
 (.reg false [⟨some 29, .bin .add (.t 14) (.c (.d (.v (.int .i64 1)))), none, 0⟩,
   ⟨some 14, .mv (.t 29), none, 0⟩])))
def K1175_3 : CC := .reg false [⟨some 12, .mv (.t 3), none, 0⟩,
   ⟨some 13, .len (.t 12), none, 0⟩,
   ⟨some 14, .mv (.c (.d (.v (.int .i64 0)))), none, 0⟩]
def K1175_4 : CC := .reg false [⟨some 7, .mv (.t 0), none, 0⟩,
   ⟨some 8, .nilc (.t 7), none, 0⟩,
   ⟨some 9, .fa 2 (.t 8), none, 0⟩,
   ⟨some 10, .ld 1 false (.t 9), none, 0⟩,
   ⟨some 11, .call (.c (.fn (.func 32) [] [])) [.t 10], none, 0⟩,
   ⟨some 3, .mv (.t 11), none, 0⟩]
def K1175_5 : CC := .seq (.reg false [⟨some 5, .mv (.t 0), none, 0⟩,
   ⟨some 6, .eq .ptr false (.t 5) (.c (.d (.v (.pointer none)))), none, 0⟩])
 (.cond 6 (.seq (.reg false [⟨some 2, .mv (.c (.d (.v (.slice none 0 0)))), none, 0⟩])
   (.ret))
   (.skip))
def K1175_6 : CC := .reg false [⟨some 2, .mv (.c (.d (.v (.slice none 0 0)))), none, 0⟩]
/-- (*coatcheck/hall.Hall).Events -/
def C1175 : CF := ⟨1, [(2, none)],
 .seq K1175_6 (.seq K1175_5 (.seq K1175_4 (.seq (.seq K1175_3 (.block 0 (.loop L1175_2))) K1175_1)))⟩
theorem c1175 : coF Tryz.prog Tryz.f10 = some C1175 := by kernel_rfl
def A1175 : Ann := { keep := [0, 2, 3, 4, 6, 13, 14, 15], live := [(0, [3, 13, 14])] }
def E1175 {Ω : Type} : Env Ω := econs 32 S1192r (econs 33 S65 (enil))
theorem e1175 : GoodE Tryz.prog E1175 := GoodE.cons g1192r (GoodE.cons g65 (GoodE.nil))
def S1175 {Ω : Type} : Spec Ω := inl E1175 A1175 C1175 false
theorem g1175 : Good1 Tryz.prog 10 S1175 := Good1.inl e1175 mix Tryz.func10 (by kernel_rfl) c1175 A1175 false
/-- (*coatcheck/hall.Hall).Left -/
def C1177 : CF := ⟨2, [(4, none)],
 .seq (.reg false [⟨some 4, .mv (.c (.d (.v (.int .i64 0)))), none, 0⟩])
 (.seq (.seq (.reg false [⟨some 5, .mv (.t 0), none, 0⟩,
   ⟨some 6, .mv (.t 1), none, 0⟩,
   ⟨some 7, .call (.c (.fn (.func 34) [] [])) [.t 5, .t 6], none, 0⟩,
   ⟨some 8, .un .not (.t 7), none, 0⟩])
 (.cond 8 (.seq (.reg false [⟨some 4, .mv (.c (.d (.v (.int .i64 0)))), none, 0⟩])
   (.ret))
   (.skip)))
 (.seq (.reg true [⟨some 9, .mv (.t 0), none, 0⟩,
   ⟨some 10, .nilc (.t 9), none, 1⟩,
   ⟨some 11, .fa 1 (.t 10), none, 3⟩,
   ⟨some 12, .ld 1 false (.t 11), none, 7⟩,
   ⟨some 13, .mv (.t 1), none, 0⟩,
   ⟨some 14, .ixs 36 (.t 12) (.t 13), none, 31⟩,
   ⟨some 15, .fa 33 (.t 14), none, 63⟩,
   ⟨some 16, .ld 1 false (.t 15), none, 127⟩,
   ⟨some 17, .len (.t 16), none, 255⟩,
   ⟨some 18, .mv (.t 0), none, 0⟩,
   ⟨some 19, .nilc (.t 18), none, 512⟩,
   ⟨some 20, .fa 1 (.t 19), none, 1536⟩,
   ⟨some 21, .ld 1 false (.t 20), none, 3584⟩,
   ⟨some 22, .mv (.t 1), none, 0⟩,
   ⟨some 23, .ixs 36 (.t 21) (.t 22), none, 15872⟩,
   ⟨some 24, .fa 34 (.t 23), none, 32256⟩,
   ⟨some 25, .ld 1 false (.t 24), none, 65024⟩,
   ⟨some 26, .bin .sub (.t 17) (.t 25), none, 131071⟩,
   ⟨some 4, .mv (.t 26), none, 262143⟩])
 (.ret)))⟩
theorem c1177 : coF Tryz.prog Tryz.f13 = some C1177 := by kernel_rfl
def A1177 : Ann := { keep := [0, 1, 4, 8], live := [] }
def E1177 {Ω : Type} : Env Ω := econs 34 S1187 (enil)
theorem e1177 : GoodE Tryz.prog E1177 := GoodE.cons g1187 (GoodE.nil)
def S1177 {Ω : Type} : Spec Ω := inl E1177 A1177 C1177 false
theorem g1177 : Good1 Tryz.prog 13 S1177 := Good1.inl e1177 mix Tryz.func13 (by kernel_rfl) c1177 A1177 false
/-- (*coatcheck/hall.Hall).Words -/
def C1178 : CF := ⟨1, [(2, none)],
 .seq (.reg false [⟨some 2, .mv (.c (.d (.v (.slice none 0 0)))), none, 0⟩])
 (.seq (.seq (.reg false [⟨some 3, .mv (.t 0), none, 0⟩,
   ⟨some 4, .eq .ptr false (.t 3) (.c (.d (.v (.pointer none)))), none, 0⟩])
 (.cond 4 (.seq (.reg false [⟨some 2, .mv (.c (.d (.v (.slice none 0 0)))), none, 0⟩])
   (.ret))
   (.skip)))
 (.seq (.reg false [⟨some 5, .mv (.t 0), none, 0⟩,
   ⟨some 6, .nilc (.t 5), none, 0⟩,
   ⟨some 7, .fa 0 (.t 6), none, 0⟩,
   ⟨some 8, .ld 1 false (.t 7), none, 0⟩,
   ⟨some 9, .call (.c (.fn (.func 41) [] [])) [.t 8], none, 0⟩,
   ⟨some 2, .mv (.t 9), none, 0⟩])
 (.ret)))⟩
theorem c1178 : coF Tryz.prog Tryz.f14 = some C1178 := by kernel_rfl
def A1178 : Ann := { keep := [0, 2, 4], live := [] }
def E1178 {Ω : Type} : Env Ω := econs 41 S33c (enil)
theorem e1178 : GoodE Tryz.prog E1178 := GoodE.cons g33c (GoodE.nil)
def S1178 {Ω : Type} : Spec Ω := inl E1178 A1178 C1178 false
theorem g1178 : Good1 Tryz.prog 14 S1178 := Good1.inl e1178 mix Tryz.func14 (by kernel_rfl) c1178 A1178 false
def K1193_1 : CC := .seq (.reg false [⟨some 30, .ld 33 true (.t 1), none, 0⟩,
   ⟨none, .st 33 (.t 2) (.t 30), none, 0⟩])
 (.ret)
def L1193_2 : CC := .seq (.reg false [⟨some 17, .bin .lss (.t 16) (.c (.d (.v (.int .i64 3)))), none, 0⟩])
 (.seq (.cond 17 (.skip)
   (.exit 0))
 (.seq (.block 1 (.seq (.reg false [⟨some 18, .mv (.t 16), none, 0⟩,
     ⟨some 3, .mv (.t 18), none, 0⟩])
   (.reg false [⟨some 19, .mv (.t 3), none, 0⟩,
     ⟨some 20, .mv (.t 3), none, 0⟩,
     ⟨some 21, .fa 11 (.t 1), none, 0⟩,
     ⟨some 22, .ixa 3 2 (.t 21) (.t 20), none, 0⟩,
     ⟨some 23, .fa 1 (.t 22), none, 0⟩,
     ⟨some 24, .ld 1 false (.t 23), none, 0⟩,
     ⟨some 25, .call (.c (.fn (.func 63) [] [])) [.t 24], none, 0⟩,
     ⟨some 26, .fa 11 (.t 1), none, 0⟩,
     ⟨some 27, .ixa 3 2 (.t 26) (.t 19), none, 0⟩,
     ⟨some 28, .fa 1 (.t 27), none, 0⟩,
     ⟨none, .st 1 (.t 28) (.t 25), none, 0⟩])))
 (.reg false [⟨some 29, .bin .add (.t 16) (.c (.d (.v (.int .i64 1)))), none, 0⟩,
   ⟨some 16, .mv (.t 29), none, 0⟩])))
def K1193_3 : CC := .reg false [⟨some 16, .mv (.c (.d (.v (.int .i64 0)))), none, 0⟩]
def K1193_4 : CC := .reg true [⟨some 4, .fa 10 (.t 1), none, 0⟩,
   ⟨some 5, .ld 1 false (.t 4), none, 1⟩,
   ⟨some 6, .call (.c (.fn (.func 63) [] [])) [.t 5], none, 3⟩,
   ⟨some 7, .fa 17 (.t 1), none, 0⟩,
   ⟨some 8, .ld 1 false (.t 7), none, 8⟩,
   ⟨some 9, .call (.c (.fn (.func 63) [] [])) [.t 8], none, 31⟩,
   ⟨some 10, .fa 29 (.t 1), none, 0⟩,
   ⟨some 11, .ld 1 false (.t 10), none, 64⟩,
   ⟨some 12, .call (.c (.fn (.func 33) [] [])) [.t 11], none, 255⟩,
   ⟨some 13, .fa 10 (.t 1), none, 223⟩,
   ⟨none, .st 1 (.t 13) (.t 6), none, 1023⟩,
   ⟨some 14, .fa 17 (.t 1), none, 2047⟩,
   ⟨none, .st 1 (.t 14) (.t 9), none, 4095⟩,
   ⟨some 15, .fa 29 (.t 1), none, 8191⟩,
   ⟨none, .st 1 (.t 15) (.t 12), none, 16383⟩]
def K1193_5 : CC := .reg false [⟨some 1, .box 56 33 (.t 0), none, 0⟩,
   ⟨some 2, .newc 56 [.d (.v (.int .i64 0)), .d (.v (.int .i64 0)), .d (.v (.int .u64 0)), .d (.v (.int .u64 0)), .d (.v (.int .i64 0)), .d (.v (.bool false)), .d (.v (.int .i64 0)), .d (.v (.int .i64 0)), .d (.v (.bool false)), .d (.v (.int .u64 0)), .d (.v (.slice none 0 0)), .d (.v (.int .u64 0)), .d (.v (.slice none 0 0)), .d (.v (.int .u64 0)), .d (.v (.slice none 0 0)), .d (.v (.int .u64 0)), .d (.v (.slice none 0 0)), .d (.v (.slice none 0 0)), .d (.v (.int .i64 0)), .d (.v (.int .i64 0)), .d (.v (.int .i64 0)), .d (.v (.int .i64 0)), .d (.v (.int .i64 0)), .d (.v (.int .u64 0)), .d (.v (.int .u64 0)), .d (.v (.int .u64 0)), .d (.v (.int .u64 0)), .d (.v (.int .u64 0)), .d (.v (.int .i64 0)), .d (.v (.slice none 0 0)), .d (.v (.int .u64 0)), .d (.v (.int .i64 0)), .d (.v (.bool false))], none, 0⟩]
/-- coatcheck/rack.Copy -/
def C1193 : CF := ⟨1, [(2, some (33, true))],
 .seq K1193_5 (.seq K1193_4 (.seq (.seq K1193_3 (.block 0 (.loop L1193_2))) K1193_1))⟩
theorem c1193 : coF Tryz.prog Tryz.f43 = some C1193 := by kernel_rfl
def A1193 : Ann := { keep := [0, 1, 2, 3, 16, 17], live := [(0, [1, 2, 16])] }
def E1193 {Ω : Type} : Env Ω := econs 33 S65 (econs 63 S1076c (enil))
theorem e1193 : GoodE Tryz.prog E1193 := GoodE.cons g65 (GoodE.cons g1076c (GoodE.nil))
def S1193 {Ω : Type} : Spec Ω := inl E1193 A1193 C1193 false
theorem g1193 : Good1 Tryz.prog 43 S1193 := Good1.inl e1193 mix Tryz.func43 (by kernel_rfl) c1193 A1193 false
/-- (*coatcheck/hall.Hall).Work -/
def C1181 : CF := ⟨2, [(4, some (33, true))],
 .seq (.reg false [⟨some 4, .newc 56 [.d (.v (.int .i64 0)), .d (.v (.int .i64 0)), .d (.v (.int .u64 0)), .d (.v (.int .u64 0)), .d (.v (.int .i64 0)), .d (.v (.bool false)), .d (.v (.int .i64 0)), .d (.v (.int .i64 0)), .d (.v (.bool false)), .d (.v (.int .u64 0)), .d (.v (.slice none 0 0)), .d (.v (.int .u64 0)), .d (.v (.slice none 0 0)), .d (.v (.int .u64 0)), .d (.v (.slice none 0 0)), .d (.v (.int .u64 0)), .d (.v (.slice none 0 0)), .d (.v (.slice none 0 0)), .d (.v (.int .i64 0)), .d (.v (.int .i64 0)), .d (.v (.int .i64 0)), .d (.v (.int .i64 0)), .d (.v (.int .i64 0)), .d (.v (.int .u64 0)), .d (.v (.int .u64 0)), .d (.v (.int .u64 0)), .d (.v (.int .u64 0)), .d (.v (.int .u64 0)), .d (.v (.int .i64 0)), .d (.v (.slice none 0 0)), .d (.v (.int .u64 0)), .d (.v (.int .i64 0)), .d (.v (.bool false))], none, 0⟩])
 (.seq (.seq (.reg false [⟨some 5, .mv (.t 0), none, 0⟩,
   ⟨some 6, .mv (.t 1), none, 0⟩,
   ⟨some 7, .call (.c (.fn (.func 34) [] [])) [.t 5, .t 6], none, 0⟩,
   ⟨some 8, .un .not (.t 7), none, 0⟩])
 (.cond 8 (.seq (.reg false [⟨some 9, .bld [.d (.v (.int .i64 0)), .d (.v (.int .i64 0)), .d (.v (.int .u64 0)), .d (.v (.int .u64 0)), .d (.v (.int .i64 0)), .d (.v (.bool false)), .d (.v (.int .i64 0)), .d (.v (.int .i64 0)), .d (.v (.bool false)), .d (.v (.int .u64 0)), .d (.v (.slice none 0 0)), .d (.v (.int .u64 0)), .d (.v (.slice none 0 0)), .d (.v (.int .u64 0)), .d (.v (.slice none 0 0)), .d (.v (.int .u64 0)), .d (.v (.slice none 0 0)), .d (.v (.slice none 0 0)), .d (.v (.int .i64 0)), .d (.v (.int .i64 0)), .d (.v (.int .i64 0)), .d (.v (.int .i64 0)), .d (.v (.int .i64 0)), .d (.v (.int .u64 0)), .d (.v (.int .u64 0)), .d (.v (.int .u64 0)), .d (.v (.int .u64 0)), .d (.v (.int .u64 0)), .d (.v (.int .i64 0)), .d (.v (.slice none 0 0)), .d (.v (.int .u64 0)), .d (.v (.int .i64 0)), .d (.v (.bool false))] [], none, 0⟩,
     ⟨none, .st 33 (.t 4) (.t 9), none, 0⟩])
   (.ret))
   (.skip)))
 (.seq (.reg false [⟨some 10, .mv (.t 0), none, 0⟩,
   ⟨some 11, .nilc (.t 10), none, 0⟩,
   ⟨some 12, .fa 1 (.t 11), none, 0⟩,
   ⟨some 13, .ld 1 false (.t 12), none, 0⟩,
   ⟨some 14, .mv (.t 1), none, 0⟩,
   ⟨some 15, .ixs 36 (.t 13) (.t 14), none, 0⟩,
   ⟨some 16, .fa 0 (.t 15), none, 0⟩,
   ⟨some 17, .ld 33 true (.t 16), none, 0⟩,
   ⟨some 18, .call (.c (.fn (.func 43) [] [])) [.t 17], none, 0⟩,
   ⟨none, .st 33 (.t 4) (.t 18), none, 0⟩])
 (.ret)))⟩
theorem c1181 : coF Tryz.prog Tryz.f17 = some C1181 := by kernel_rfl
def A1181 : Ann := { keep := [0, 1, 4, 8], live := [] }
def E1181 {Ω : Type} : Env Ω := econs 34 S1187 (econs 43 S1193 (enil))
theorem e1181 : GoodE Tryz.prog E1181 := GoodE.cons g1187 (GoodE.cons g1193 (GoodE.nil))
def S1181 {Ω : Type} : Spec Ω := inl E1181 A1181 C1181 false
theorem g1181 : Good1 Tryz.prog 17 S1181 := Good1.inl e1181 mix Tryz.func17 (by kernel_rfl) c1181 A1181 false
/-- coatcheck/coatcheckref15.Alike -/
def C1180 : CF := ⟨2, [(4, none)],
 .seq (.reg false [⟨some 2, .box 56 33 (.t 0), none, 0⟩,
   ⟨some 3, .box 56 33 (.t 1), none, 0⟩,
   ⟨some 4, .mv (.c (.d (.v (.bool false)))), none, 0⟩])
 (.seq (.reg false [⟨some 5, .ld 33 true (.t 2), none, 0⟩,
   ⟨some 6, .ld 33 true (.t 3), none, 0⟩,
   ⟨some 7, .call (.c (.fn (.func 42) [] [])) [.t 5, .t 6], none, 0⟩,
   ⟨some 4, .mv (.t 7), none, 0⟩])
 (.ret))⟩
theorem c1180 : coF Tryz.prog Tryz.f16 = some C1180 := by kernel_rfl
def A1180 : Ann := { keep := [0, 1, 2, 3, 4], live := [] }
def E1180 {Ω : Type} : Env Ω := econs 42 S48c (enil)
theorem e1180 : GoodE Tryz.prog E1180 := GoodE.cons g48c (GoodE.nil)
def S1180 {Ω : Type} : Spec Ω := inl E1180 A1180 C1180 false
theorem g1180 : Good1 Tryz.prog 16 S1180 := Good1.inl e1180 mix Tryz.func16 (by kernel_rfl) c1180 A1180 false
def K1196_1 : CC := .seq (.reg false [⟨some 44, .mv (.t 4), none, 0⟩,
   ⟨some 45, .mv (.t 44), none, 0⟩,
   ⟨some 46, .ld 7 true (.t 5), some (45, true), 0⟩,
   ⟨some 47, .ld 7 true (.t 1), some (45, true), 0⟩,
   ⟨some 48, .eq (.cons .int 0 1 false (.cons .int 1 1 false (.cons .int 2 1 false (.cons .int 3 1 false (.cons .bool 4 1 false (.cons .int 5 1 false (.cons .int 6 1 false .nil))))))) false (.t 46) (.t 47), some (45, true), 0⟩,
   ⟨some 49, .pick (.t 45) (.t 48) (.c (.d (.v (.bool false)))), none, 0⟩,
   ⟨some 50, .mv (.t 49), none, 0⟩,
   ⟨some 51, .fa 5 (.t 1), some (50, true), 0⟩,
   ⟨some 52, .ld 1 false (.t 51), some (50, true), 0⟩,
   ⟨some 53, .bin .geq (.t 52) (.c (.d (.v (.int .i64 0)))), some (50, true), 0⟩,
   ⟨some 54, .pick (.t 50) (.t 53) (.c (.d (.v (.bool false)))), none, 0⟩,
   ⟨some 55, .mv (.t 54), none, 0⟩,
   ⟨some 56, .fa 6 (.t 1), some (55, true), 0⟩,
   ⟨some 57, .ld 1 false (.t 56), some (55, true), 0⟩,
   ⟨some 58, .bin .geq (.t 57) (.c (.d (.v (.int .i64 0)))), some (55, true), 0⟩,
   ⟨some 59, .pick (.t 55) (.t 58) (.c (.d (.v (.bool false)))), none, 0⟩,
   ⟨some 60, .mv (.t 59), none, 0⟩,
   ⟨some 61, .fa 3 (.t 1), some (60, true), 0⟩,
   ⟨some 62, .ld 1 false (.t 61), some (60, true), 0⟩,
   ⟨some 63, .bin .geq (.t 62) (.c (.d (.v (.int .i64 0)))), some (60, true), 0⟩,
   ⟨some 64, .pick (.t 60) (.t 63) (.c (.d (.v (.bool false)))), none, 0⟩,
   ⟨some 2, .mv (.t 64), none, 0⟩])
 (.ret)
def K1196_2 : CC := .seq (.reg false [⟨some 39, .fa 3 (.t 3), none, 0⟩,
   ⟨some 40, .ld 1 false (.t 39), none, 0⟩])
 (.cond 40 (.reg false [⟨some 41, .fa 3 (.t 1), none, 0⟩,
     ⟨some 42, .ld 1 false (.t 41), none, 0⟩,
     ⟨some 43, .fa 3 (.t 5), none, 0⟩,
     ⟨none, .st 1 (.t 43) (.t 42), none, 0⟩])
   (.skip))
def K1196_3 : CC := .seq (.reg false [⟨some 34, .fa 2 (.t 3), none, 0⟩,
   ⟨some 35, .ld 1 false (.t 34), none, 0⟩])
 (.cond 35 (.reg false [⟨some 36, .fa 2 (.t 1), none, 0⟩,
     ⟨some 37, .ld 1 false (.t 36), none, 0⟩,
     ⟨some 38, .fa 2 (.t 5), none, 0⟩,
     ⟨none, .st 1 (.t 38) (.t 37), none, 0⟩])
   (.skip))
def K1196_4 : CC := .seq (.reg false [⟨some 16, .fa 1 (.t 3), none, 0⟩,
   ⟨some 17, .ld 1 false (.t 16), none, 0⟩,
   ⟨some 18, .mv (.t 17), none, 0⟩,
   ⟨some 19, .fa 4 (.t 1), some (18, true), 0⟩,
   ⟨some 20, .ld 1 false (.t 19), some (18, true), 0⟩,
   ⟨some 21, .pick (.t 18) (.t 20) (.c (.d (.v (.bool false)))), none, 0⟩])
 (.cond 21 (.reg true [⟨some 22, .fa 5 (.t 1), none, 0⟩,
     ⟨some 23, .ld 1 false (.t 22), none, 1⟩,
     ⟨some 24, .fa 6 (.t 1), none, 0⟩,
     ⟨some 25, .ld 1 false (.t 24), none, 4⟩,
     ⟨some 26, .fa 4 (.t 5), none, 0⟩,
     ⟨none, .st 1 (.t 26) (.c (.d (.v (.bool true)))), none, 16⟩,
     ⟨some 27, .fa 5 (.t 5), none, 51⟩,
     ⟨none, .st 1 (.t 27) (.t 23), none, 115⟩,
     ⟨some 28, .fa 6 (.t 5), none, 255⟩,
     ⟨none, .st 1 (.t 28) (.t 25), none, 511⟩])
   (.seq (.reg false [⟨some 29, .fa 1 (.t 3), none, 0⟩,
     ⟨some 30, .ld 1 false (.t 29), none, 0⟩])
   (.cond 30 (.reg false [⟨some 31, .fa 1 (.t 1), none, 0⟩,
       ⟨some 32, .ld 1 false (.t 31), none, 0⟩,
       ⟨some 33, .fa 1 (.t 5), none, 0⟩,
       ⟨none, .st 1 (.t 33) (.t 32), none, 0⟩])
     (.skip))))
def K1196_5 : CC := .reg false [⟨some 13, .fa 0 (.t 1), none, 0⟩,
   ⟨some 14, .ld 1 false (.t 13), none, 0⟩,
   ⟨some 15, .bld [.d (.v (.int .i64 0)), .d (.v (.int .u64 0)), .d (.v (.int .u64 0)), .d (.v (.int .i64 0)), .d (.v (.bool false)), .d (.v (.int .i64 0)), .d (.v (.int .i64 0))] [(0, 1, .t 14)], none, 0⟩,
   ⟨some 5, .newc 37 [.d (.v (.int .i64 0)), .d (.v (.int .u64 0)), .d (.v (.int .u64 0)), .d (.v (.int .i64 0)), .d (.v (.bool false)), .d (.v (.int .i64 0)), .d (.v (.int .i64 0))], none, 0⟩,
   ⟨none, .st 7 (.t 5) (.t 15), none, 0⟩]
def K1196_6 : CC := .reg true [⟨some 7, .call (.c (.fn (.func 55) [] [])) [], none, 0⟩,
   ⟨some 8, .fa 0 (.t 1), none, 0⟩,
   ⟨some 9, .ld 1 false (.t 8), none, 2⟩,
   ⟨some 10, .lku 0 (.agg [.d (.v (.string ⟨#[]⟩)), .d (.v (.bool false)), .d (.v (.bool false)), .d (.v (.bool false))]) true (.t 7) (.t 9), none, 7⟩,
   ⟨some 6, .mv (.t 10), none, 15⟩,
   ⟨some 11, .ext 0 (.t 6), none, 31⟩,
   ⟨some 12, .ext 1 (.t 6), none, 31⟩,
   ⟨some 3, .newc 101 [.d (.v (.string ⟨#[]⟩)), .d (.v (.bool false)), .d (.v (.bool false)), .d (.v (.bool false))], none, 0⟩,
   ⟨none, .st 4 (.t 3) (.t 11), none, 191⟩,
   ⟨some 4, .mv (.t 12), none, 511⟩]
def K1196_7 : CC := .reg false [⟨some 1, .box 37 7 (.t 0), none, 0⟩,
   ⟨some 2, .mv (.c (.d (.v (.bool false)))), none, 0⟩]
/-- coatcheck/oper.Right -/
def C1196 : CF := ⟨1, [(2, none)],
 .seq K1196_7 (.seq K1196_6 (.seq K1196_5 (.seq K1196_4 (.seq K1196_3 (.seq K1196_2 K1196_1)))))⟩
theorem c1196 : coF Tryz.prog Tryz.f28 = some C1196 := by kernel_rfl
def A1196 : Ann := { keep := [0, 1, 2, 3, 4, 5, 21, 30, 35, 40], live := [], pu := [55] }
def E1196 {Ω : Type} : Env Ω := econs 55 S1137p (enil)
theorem e1196 : GoodE Tryz.prog E1196 := GoodE.cons g1137p (GoodE.nil)
def S1196 {Ω : Type} : Spec Ω := inl E1196 A1196 C1196 false
theorem g1196 : Good1 Tryz.prog 28 S1196 := Good1.inl e1196 mix Tryz.func28 (by kernel_rfl) c1196 A1196 false
/-- coatcheck/hall.New$1 -/
def C1195 : CF := ⟨1, [(2, none)],
 .seq (.reg false [⟨some 1, .box 37 7 (.t 0), none, 0⟩,
   ⟨some 2, .mv (.c (.d (.v (.bool false)))), none, 0⟩])
 (.seq (.reg false [⟨some 3, .ld 7 true (.t 1), none, 0⟩,
   ⟨some 4, .call (.c (.fn (.func 28) [] [])) [.t 3], none, 0⟩,
   ⟨some 5, .un .not (.t 4), none, 0⟩,
   ⟨some 2, .mv (.t 5), none, 0⟩])
 (.ret))⟩
theorem c1195 : coF Tryz.prog Tryz.f27 = some C1195 := by kernel_rfl
def A1195 : Ann := { keep := [0, 1, 2], live := [] }
def E1195 {Ω : Type} : Env Ω := econs 28 S1196 (enil)
theorem e1195 : GoodE Tryz.prog E1195 := GoodE.cons g1196 (GoodE.nil)
def S1195 {Ω : Type} : Spec Ω := inl E1195 A1195 C1195 false
theorem g1195 : Good1 Tryz.prog 27 S1195 := Good1.inl e1195 mix Tryz.func27 (by kernel_rfl) c1195 A1195 false
/-- slices.Clone[[]coatcheck/api.Op,coatcheck/api.Op] -/
def C1194 : CF := ⟨1, [(2, none)],
 .seq (.reg false [⟨some 2, .mv (.c (.d (.v (.slice none 0 0)))), none, 0⟩])
 (.seq (.seq (.reg false [⟨some 3, .mv (.t 0), none, 0⟩,
   ⟨some 4, .eq .slc false (.t 3) (.c (.d (.v (.slice none 0 0)))), none, 0⟩])
 (.cond 4 (.seq (.reg false [⟨some 2, .mv (.c (.d (.v (.slice none 0 0)))), none, 0⟩])
   (.ret))
   (.skip)))
 (.seq (.reg false [⟨some 5, .bsl 37 7 0 [.d (.v (.int .i64 0)), .d (.v (.int .u64 0)), .d (.v (.int .u64 0)), .d (.v (.int .i64 0)), .d (.v (.bool false)), .d (.v (.int .i64 0)), .d (.v (.int .i64 0))] [], none, 0⟩,
   ⟨some 6, .mv (.t 0), none, 0⟩,
   ⟨some 7, .app 37 7 56 none (.t 5) (.t 6), none, 0⟩,
   ⟨some 2, .mv (.t 7), none, 0⟩])
 (.ret)))⟩
theorem c1194 : coF Tryz.prog Tryz.f26 = some C1194 := by kernel_rfl
def A1194 : Ann := { keep := [0, 2, 4], live := [] }
def E1194 {Ω : Type} : Env Ω := enil
theorem e1194 : GoodE Tryz.prog E1194 := GoodE.nil
def S1194 {Ω : Type} : Spec Ω := inl E1194 A1194 C1194 false
theorem g1194 : Good1 Tryz.prog 26 S1194 := Good1.inl e1194 mix Tryz.func26 (by kernel_rfl) c1194 A1194 false
def K1209_1 : CC := .seq (.reg false [⟨some 4, .mv (.c (.d (.v (.int .i64 (-1))))), none, 0⟩])
 (.ret)
def L1209_2 : CC := .seq (.reg false [⟨some 9, .bin .lss (.t 8) (.t 7), none, 0⟩])
 (.seq (.cond 9 (.skip)
   (.exit 0))
 (.seq (.block 1 (.seq (.reg false [⟨some 10, .mv (.t 8), none, 0⟩,
     ⟨some 5, .mv (.t 10), none, 0⟩])
   (.seq (.reg false [⟨some 11, .mv (.t 1), none, 0⟩,
     ⟨some 12, .mv (.t 0), none, 0⟩,
     ⟨some 13, .mv (.t 5), none, 0⟩,
     ⟨some 14, .ixs 7 (.t 12) (.t 13), none, 0⟩,
     ⟨some 15, .ld 7 true (.t 14), none, 0⟩,
     ⟨some 16, .call (.t 11) [.t 15], none, 0⟩])
   (.cond 16 (.seq (.reg false [⟨some 17, .mv (.t 5), none, 0⟩,
       ⟨some 4, .mv (.t 17), none, 0⟩])
     (.ret))
     (.skip)))))
 (.reg false [⟨some 18, .bin .add (.t 8) (.c (.d (.v (.int .i64 1)))), none, 0⟩,
   ⟨some 8, .mv (.t 18), none, 0⟩])))
def K1209_3 : CC := .reg false [⟨some 6, .mv (.t 0), none, 0⟩,
   ⟨some 7, .len (.t 6), none, 0⟩,
   ⟨some 8, .mv (.c (.d (.v (.int .i64 0)))), none, 0⟩]
def K1209_4 : CC := .reg false [⟨some 4, .mv (.c (.d (.v (.int .i64 0)))), none, 0⟩]
/-- slices.IndexFunc[[]coatcheck/api.Op,coatcheck/api.Op] -/
def C1209 : CF := ⟨2, [(4, none)],
 .seq K1209_4 (.seq (.seq K1209_3 (.block 0 (.loop L1209_2))) K1209_1)⟩
theorem c1209 : coF Tryz.prog Tryz.f57 = some C1209 := by kernel_rfl
def A1209 : Ann := { keep := [0, 1, 4, 5, 7, 8, 9, 16], live := [(0, [0, 1, 7, 8])] }
def E1209 {Ω : Type} : Env Ω := econs 27 S1195 (enil)
theorem e1209 : GoodE Tryz.prog E1209 := GoodE.cons g1195 (GoodE.nil)
def S1209 {Ω : Type} : Spec Ω := inl E1209 A1209 C1209 false
theorem g1209 : Good1 Tryz.prog 57 S1209 := Good1.inl e1209 mix Tryz.func57 (by kernel_rfl) c1209 A1209 false
/-- slices.ContainsFunc[[]coatcheck/api.Op,coatcheck/api.Op] -/
def C1199 : CF := ⟨2, [(4, none)],
 .seq (.reg false [⟨some 4, .mv (.c (.d (.v (.bool false)))), none, 0⟩])
 (.seq (.reg false [⟨some 5, .mv (.t 0), none, 0⟩,
   ⟨some 6, .mv (.t 1), none, 0⟩,
   ⟨some 7, .call (.c (.fn (.func 57) [] [])) [.t 5, .t 6], none, 0⟩,
   ⟨some 8, .bin .geq (.t 7) (.c (.d (.v (.int .i64 0)))), none, 0⟩,
   ⟨some 4, .mv (.t 8), none, 0⟩])
 (.ret))⟩
theorem c1199 : coF Tryz.prog Tryz.f31 = some C1199 := by kernel_rfl
def A1199 : Ann := { keep := [0, 1, 4], live := [] }
def E1199 {Ω : Type} : Env Ω := econs 57 S1209 (enil)
theorem e1199 : GoodE Tryz.prog E1199 := GoodE.cons g1209 (GoodE.nil)
def S1199 {Ω : Type} : Spec Ω := inl E1199 A1199 C1199 false
theorem g1199 : Good1 Tryz.prog 31 S1199 := Good1.inl e1199 mix Tryz.func31 (by kernel_rfl) c1199 A1199 false
/-- coatcheck/hall.New$2 -/
def C1198 : CF := ⟨2, [(3, none)],
 .seq (.reg false [⟨some 3, .mv (.c (.d (.v (.bool false)))), none, 0⟩])
 (.seq (.reg false [⟨some 4, .mv (.t 0), none, 0⟩,
   ⟨some 5, .ld 1 false (.t 1), none, 0⟩,
   ⟨some 6, .call (.c (.fn (.func 31) [] [])) [.t 4, .t 5], none, 0⟩,
   ⟨some 3, .mv (.t 6), none, 0⟩])
 (.ret))⟩
theorem c1198 : coF Tryz.prog Tryz.f30 = some C1198 := by kernel_rfl
def A1198 : Ann := { keep := [0, 1, 3], live := [] }
def E1198 {Ω : Type} : Env Ω := econs 31 S1199 (enil)
theorem e1198 : GoodE Tryz.prog E1198 := GoodE.cons g1199 (GoodE.nil)
def S1198 {Ω : Type} : Spec Ω := inl E1198 A1198 C1198 false
theorem g1198 : Good1 Tryz.prog 30 S1198 := Good1.inl e1198 mix Tryz.func30 (by kernel_rfl) c1198 A1198 false
def K1208_1 : CC := .seq (.reg false [⟨some 4, .mv (.c (.d (.v (.int .i64 (-1))))), none, 0⟩])
 (.ret)
def L1208_2 : CC := .seq (.reg false [⟨some 9, .bin .lss (.t 8) (.t 7), none, 0⟩])
 (.seq (.cond 9 (.skip)
   (.exit 0))
 (.seq (.block 1 (.seq (.reg false [⟨some 10, .mv (.t 8), none, 0⟩,
     ⟨some 5, .mv (.t 10), none, 0⟩])
   (.seq (.reg false [⟨some 11, .mv (.t 1), none, 0⟩,
     ⟨some 12, .mv (.t 0), none, 0⟩,
     ⟨some 13, .mv (.t 5), none, 0⟩,
     ⟨some 14, .ixs 1 (.t 12) (.t 13), none, 0⟩,
     ⟨some 15, .ld 1 false (.t 14), none, 0⟩,
     ⟨some 16, .call (.t 11) [.t 15], none, 0⟩])
   (.cond 16 (.seq (.reg false [⟨some 17, .mv (.t 5), none, 0⟩,
       ⟨some 4, .mv (.t 17), none, 0⟩])
     (.ret))
     (.skip)))))
 (.reg false [⟨some 18, .bin .add (.t 8) (.c (.d (.v (.int .i64 1)))), none, 0⟩,
   ⟨some 8, .mv (.t 18), none, 0⟩])))
def K1208_3 : CC := .reg false [⟨some 6, .mv (.t 0), none, 0⟩,
   ⟨some 7, .len (.t 6), none, 0⟩,
   ⟨some 8, .mv (.c (.d (.v (.int .i64 0)))), none, 0⟩]
def K1208_4 : CC := .reg false [⟨some 4, .mv (.c (.d (.v (.int .i64 0)))), none, 0⟩]
/-- slices.IndexFunc[[][]coatcheck/api.Op,[]coatcheck/api.Op] -/
def C1208 : CF := ⟨2, [(4, none)],
 .seq K1208_4 (.seq (.seq K1208_3 (.block 0 (.loop L1208_2))) K1208_1)⟩
theorem c1208 : coF Tryz.prog Tryz.f56 = some C1208 := by kernel_rfl
def A1208 : Ann := { keep := [0, 1, 4, 5, 7, 8, 9, 16], live := [(0, [0, 1, 7, 8])] }
def E1208 {Ω : Type} : Env Ω := econs 30 S1198 (enil)
theorem e1208 : GoodE Tryz.prog E1208 := GoodE.cons g1198 (GoodE.nil)
def S1208 {Ω : Type} : Spec Ω := inl E1208 A1208 C1208 false
theorem g1208 : Good1 Tryz.prog 56 S1208 := Good1.inl e1208 mix Tryz.func56 (by kernel_rfl) c1208 A1208 false
/-- slices.ContainsFunc[[][]coatcheck/api.Op,[]coatcheck/api.Op] -/
def C1197 : CF := ⟨2, [(4, none)],
 .seq (.reg false [⟨some 4, .mv (.c (.d (.v (.bool false)))), none, 0⟩])
 (.seq (.reg false [⟨some 5, .mv (.t 0), none, 0⟩,
   ⟨some 6, .mv (.t 1), none, 0⟩,
   ⟨some 7, .call (.c (.fn (.func 56) [] [])) [.t 5, .t 6], none, 0⟩,
   ⟨some 8, .bin .geq (.t 7) (.c (.d (.v (.int .i64 0)))), none, 0⟩,
   ⟨some 4, .mv (.t 8), none, 0⟩])
 (.ret))⟩
theorem c1197 : coF Tryz.prog Tryz.f29 = some C1197 := by kernel_rfl
def A1197 : Ann := { keep := [0, 1, 4], live := [] }
def E1197 {Ω : Type} : Env Ω := econs 56 S1208 (enil)
theorem e1197 : GoodE Tryz.prog E1197 := GoodE.cons g1208 (GoodE.nil)
def S1197 {Ω : Type} : Spec Ω := inl E1197 A1197 C1197 false
theorem g1197 : Good1 Tryz.prog 29 S1197 := Good1.inl e1197 mix Tryz.func29 (by kernel_rfl) c1197 A1197 false
def K1182_1 : CC := .seq (.reg false [⟨some 11, .newc 75 [.d (.v (.nilFunc))], none, 0⟩,
   ⟨none, .st 1 (.t 11) (.c (.fn (.func 27) [] [])), none, 0⟩])
 (.seq (.seq (.reg false [⟨some 53, .mv (.t 1), none, 0⟩,
   ⟨some 54, .mkf (.func 30) [] [.t 11], none, 0⟩,
   ⟨some 55, .call (.c (.fn (.func 29) [] [])) [.t 53, .t 54], none, 0⟩])
 (.cond 55 (.seq (.reg false [⟨some 4, .mv (.c (.d (.v (.pointer none)))), none, 0⟩,
     ⟨some 5, .mv (.c (.d (.v (.int .i64 3)))), none, 0⟩])
   (.ret))
   (.skip)))
 (.seq (.reg false [⟨some 56, .mv (.t 8), none, 0⟩,
   ⟨some 4, .mv (.t 56), none, 0⟩,
   ⟨some 5, .mv (.c (.d (.v (.int .i64 0)))), none, 0⟩])
 (.ret)))
def L1182_2 : CC := .seq (.reg false [⟨some 36, .bin .lss (.t 35) (.t 34), none, 0⟩])
 (.seq (.cond 36 (.skip)
   (.exit 1))
 (.seq (.block 2 (.seq (.reg false [⟨some 37, .mv (.t 35), none, 0⟩,
     ⟨some 38, .ixs 1 (.t 33) (.t 35), none, 0⟩,
     ⟨some 39, .ld 1 false (.t 38), none, 0⟩,
     ⟨some 9, .mv (.t 37), none, 0⟩,
     ⟨some 10, .mv (.t 39), none, 0⟩])
   (.seq (.seq (.reg false [⟨some 40, .mv (.t 10), none, 0⟩,
     ⟨some 41, .len (.t 40), none, 0⟩,
     ⟨some 42, .bin .gtr (.t 41) (.c (.d (.v (.int .i64 200)))), none, 0⟩])
   (.cond 42 (.seq (.reg false [⟨some 4, .mv (.c (.d (.v (.pointer none)))), none, 0⟩,
       ⟨some 5, .mv (.c (.d (.v (.int .i64 5)))), none, 0⟩])
     (.ret))
     (.skip)))
   (.reg true [⟨some 43, .mv (.t 8), none, 0⟩,
     ⟨some 44, .nilc (.t 43), none, 1⟩,
     ⟨some 45, .fa 1 (.t 44), none, 3⟩,
     ⟨some 46, .ld 1 false (.t 45), none, 7⟩,
     ⟨some 47, .mv (.t 9), none, 0⟩,
     ⟨some 48, .mv (.t 10), none, 0⟩,
     ⟨some 49, .call (.c (.fn (.func 26) [] [])) [.t 48], none, 32⟩,
     ⟨some 50, .ixs 36 (.t 46) (.t 47), none, 127⟩,
     ⟨some 51, .fa 33 (.t 50), none, 255⟩,
     ⟨none, .st 1 (.t 51) (.t 49), none, 511⟩]))))
 (.reg false [⟨some 52, .bin .add (.t 35) (.c (.d (.v (.int .i64 1)))), none, 0⟩,
   ⟨some 35, .mv (.t 52), none, 0⟩])))
def K1182_3 : CC := .reg false [⟨some 33, .mv (.t 1), none, 0⟩,
   ⟨some 34, .len (.t 33), none, 0⟩,
   ⟨some 35, .mv (.c (.d (.v (.int .i64 0)))), none, 0⟩]
def K1182_4 : CC := .reg false [⟨some 27, .mv (.t 6), none, 0⟩,
   ⟨some 28, .fa 0 (.t 2), none, 0⟩,
   ⟨some 29, .ld 1 false (.t 28), none, 0⟩,
   ⟨some 30, .mks 74 36 416 none [.d (.v (.int .i64 0)), .d (.v (.int .i64 0)), .d (.v (.int .u64 0)), .d (.v (.int .u64 0)), .d (.v (.int .i64 0)), .d (.v (.bool false)), .d (.v (.int .i64 0)), .d (.v (.int .i64 0)), .d (.v (.bool false)), .d (.v (.int .u64 0)), .d (.ints .i64 []), .d (.v (.int .u64 0)), .d (.ints .i64 []), .d (.v (.int .u64 0)), .d (.ints .i64 []), .d (.v (.int .u64 0)), .d (.ints .i64 []), .d (.ints .i64 []), .d (.v (.int .i64 0)), .d (.v (.int .i64 0)), .d (.v (.int .i64 0)), .d (.v (.int .i64 0)), .d (.v (.int .i64 0)), .d (.v (.int .u64 0)), .d (.v (.int .u64 0)), .d (.v (.int .u64 0)), .d (.v (.int .u64 0)), .d (.v (.int .u64 0)), .d (.v (.int .i64 0)), .d (.ints .u64 []), .d (.v (.int .u64 0)), .d (.v (.int .i64 0)), .d (.v (.bool false)), .d (.v (.slice none 0 0)), .d (.v (.int .i64 0)), .d (.ints .u64 [])] (.t 29), none, 0⟩,
   ⟨some 31, .bld [.d (.v (.pointer none)), .d (.v (.slice none 0 0)), .d (.v (.slice none 0 0)), .d (.v (.int .i64 0))] [(0, 1, .t 27), (1, 1, .t 30)], none, 0⟩,
   ⟨some 32, .box 71 4 (.t 31), none, 0⟩,
   ⟨some 8, .mv (.t 32), none, 0⟩]
def K1182_5 : CC := .block 0 (.seq (.reg false [⟨some 18, .mv (.t 7), none, 0⟩,
     ⟨some 19, .eq .int true (.t 18) (.c (.d (.v (.int .i64 0)))), none, 0⟩,
     ⟨some 17, .mv (.t 19), none, 0⟩])
   (.cond 17 (.seq (.reg false [⟨some 20, .mv (.t 7), none, 0⟩,
       ⟨some 4, .mv (.c (.d (.v (.pointer none)))), none, 0⟩,
       ⟨some 5, .mv (.t 20), none, 0⟩])
     (.ret))
     (.seq (.reg false [⟨some 22, .mv (.t 1), none, 0⟩,
       ⟨some 23, .len (.t 22), none, 0⟩,
       ⟨some 24, .fa 0 (.t 2), none, 0⟩,
       ⟨some 25, .ld 1 false (.t 24), none, 0⟩,
       ⟨some 26, .bin .gtr (.t 23) (.t 25), none, 0⟩,
       ⟨some 21, .mv (.t 26), none, 0⟩])
     (.cond 21 (.seq (.reg false [⟨some 4, .mv (.c (.d (.v (.pointer none)))), none, 0⟩,
         ⟨some 5, .mv (.c (.d (.v (.int .i64 1)))), none, 0⟩])
       (.ret))
       (.skip)))))
def K1182_6 : CC := .reg false [⟨some 13, .ld 8 true (.t 2), none, 0⟩,
   ⟨some 14, .call (.c (.fn (.func 25) [] [])) [.t 13], none, 0⟩,
   ⟨some 12, .mv (.t 14), none, 0⟩,
   ⟨some 15, .ext 0 (.t 12), none, 0⟩,
   ⟨some 16, .ext 1 (.t 12), none, 0⟩,
   ⟨some 6, .mv (.t 15), none, 0⟩,
   ⟨some 7, .mv (.t 16), none, 0⟩]
def K1182_7 : CC := .reg false [⟨some 2, .box 24 8 (.t 0), none, 0⟩,
   ⟨some 4, .mv (.c (.d (.v (.pointer none)))), none, 0⟩,
   ⟨some 5, .mv (.c (.d (.v (.int .i64 0)))), none, 0⟩]
/-- coatcheck/hall.New -/
def C1182 : CF := ⟨2, [(4, none), (5, none)],
 .seq K1182_7 (.seq K1182_6 (.seq K1182_5 (.seq K1182_4 (.seq (.seq K1182_3 (.block 1 (.loop L1182_2))) K1182_1))))⟩
theorem c1182 : coF Tryz.prog Tryz.f7 = some C1182 := by kernel_rfl
def A1182 : Ann := { keep := [0, 1, 2, 4, 5, 6, 7, 8, 9, 10, 11, 17, 21, 33, 34, 35, 36, 42, 55], live := [(1, [1, 8, 33, 34, 35])] }
def E1182 {Ω : Type} : Env Ω := econs 25 S34c (econs 26 S1194 (econs 27 S1195 (econs 29 S1197 (econs 30 S1198 (enil)))))
theorem e1182 : GoodE Tryz.prog E1182 := GoodE.cons g34c (GoodE.cons g1194 (GoodE.cons g1195 (GoodE.cons g1197 (GoodE.cons g1198 (GoodE.nil)))))
/-- The same, its workers as cells: for runs whose number of workers is known. -/
def S1182c {Ω : Type} : Spec Ω := inl E1182 { A1182 with mc := true } C1182 false
theorem g1182c : Good1 Tryz.prog 7 S1182c := Good1.inl e1182 mix Tryz.func7 (by kernel_rfl) c1182 { A1182 with mc := true } false
end Go.Sx.Pr
