/- Announcements; what is well formed. -/
import Derived.Test.YtaejdljgfmclpaaGreatR6
import Derived.Test.YtaejdljgfmclpaaGreatRows
import Derived.KernelRfl
set_option linter.all false
set_option linter.unusedVariables false
set_option linter.unusedSimpArgs false
set_option linter.unnecessarySimpa false
namespace Go.Sx.Pr
open Go Go.Sx Go.Sx.Md Go.Proofs
set_option maxRecDepth 100000
def FAnn : List (List Int) → Option (Bool × SV × SH)
  | [[w], [b]] => some (uB w, U (pAnn w (b == 1)), [])
  | _ => none
def S121c {Ω : Type} : Spec Ω := conSpec [.i .u64, .b] FAnn
theorem g121c : Good1 Tryz.prog 151 S121c := conGood Tryz.func151 (by kernel_rfl) c121 e121 mix (A := A121) fun L r hr hl hF => by
  obtain ⟨q0, l0, rfl, z0, hl1⟩ := lenAs_cons hl
  obtain ⟨w, rfl⟩ := one_of' z0
  obtain ⟨q1, l1, rfl, z1, hl2⟩ := lenAs_cons hl1
  obtain ⟨b, rfl⟩ := one_of' z1
  have hz := lenAs_nil hl2
  subst hz
  simp only [FAnn, Option.some.injEq, Prod.mk.injEq, uB_iff] at hF
  obtain ⟨hu, rfl, rfl⟩ := hF
  refine ⟨trivial, trivial, [], trim_none rfl _, ?_⟩
  simp only [encAs, encA, List.headD_cons]
  rw [n121]
  cases b == 1 with
  | true => rw [br_t, bAnn]; rfl
  | false => rw [br_f, sl1]; simp only [pAnn, cond_false, Int.add_zero]
/-! ### well formed -/
def okM (m : Mm) : Bool := (chkC m.c == 0) && u64B m.ws
def okW (x : Wk) : Bool := uB x.opT && (uB x.opX && (uB x.E && (uB x.t0 && (uB x.t1 && (uB x.t2 && (uB x.H && (uB x.N && (uB x.V && (uB x.U && (uB x.G && uB x.T))))))))))

end Go.Sx.Pr

namespace Go.Sx.Pr
open Go Go.Sx Go.Proofs
set_option maxRecDepth 100000
/-- coatcheck/epoch.line -/
def C84 : CF := ⟨1, [(2, none)],
 .seq (.reg false [⟨some 2, .mv (.c (.d (.v (.bool false)))), none, 0⟩])
 (.seq (.seq (.reg false [⟨some 3, .mv (.t 0), none, 0⟩])
 (.block 0 (.seq (.block 3 (.block 2 (.block 1 (.seq (.seq (.seq (.seq (.reg false [⟨some 5, .eq .int false (.t 3) (.c (.d (.v (.int .i64 1)))), none, 0⟩,
           ⟨some 4, .mv (.t 5), none, 0⟩])
         (.cond 4 (.skip)
           (.seq (.reg false [⟨some 6, .eq .int false (.t 3) (.c (.d (.v (.int .i64 2)))), none, 0⟩,
             ⟨some 4, .mv (.t 6), none, 0⟩])
           (.cond 4 (.skip)
             (.reg false [⟨some 7, .eq .int false (.t 3) (.c (.d (.v (.int .i64 3)))), none, 0⟩,
               ⟨some 4, .mv (.t 7), none, 0⟩])))))
         (.cond 4 (.exit 1)
           (.skip)))
         (.seq (.seq (.seq (.reg false [⟨some 9, .eq .int false (.t 3) (.c (.d (.v (.int .i64 70)))), none, 0⟩,
           ⟨some 8, .mv (.t 9), none, 0⟩])
         (.cond 8 (.skip)
           (.seq (.reg false [⟨some 10, .eq .int false (.t 3) (.c (.d (.v (.int .i64 71)))), none, 0⟩,
             ⟨some 8, .mv (.t 10), none, 0⟩])
           (.cond 8 (.skip)
             (.reg false [⟨some 11, .eq .int false (.t 3) (.c (.d (.v (.int .i64 72)))), none, 0⟩,
               ⟨some 8, .mv (.t 11), none, 0⟩])))))
         (.cond 8 (.exit 2)
           (.skip)))
         (.seq (.reg false [⟨some 13, .eq .int false (.t 3) (.c (.d (.v (.int .i64 90)))), none, 0⟩,
           ⟨some 12, .mv (.t 13), none, 0⟩])
         (.cond 12 (.exit 3)
           (.skip)))))
         (.exit 0)))))
   (.seq (.seq (.reg false [⟨some 2, .mv (.c (.d (.v (.bool true)))), none, 0⟩])
   (.ret))
   (.exit 0)))))
 (.seq (.reg false [⟨some 2, .mv (.c (.d (.v (.bool false)))), none, 0⟩])
 (.ret)))⟩
theorem c84 : coF Tryz.prog Tryz.f115 = some C84 := by kernel_rfl
def A84 : Ann := { keep := [0, 2, 3, 4, 8, 12], live := [], kc := [4, 8] }
def E84 {Ω : Type} : Env Ω := enil
theorem e84 : GoodE Tryz.prog E84 := GoodE.nil
def S84 {Ω : Type} : Spec Ω := inl E84 A84 C84 false
theorem g84 : Good1 Tryz.prog 115 S84 := Good1.inl e84 mix Tryz.func115 (by kernel_rfl) c84 A84 false
/-- coatcheck/epoch.Step$1 -/
def C85 : CF := ⟨3, [],
 .reg false [⟨some 4, .mv (.t 0), none, 0⟩,
   ⟨some 5, .fa 0 (.t 1), none, 0⟩,
   ⟨none, .st 1 (.t 5) (.c (.d (.v (.int .i64 0)))), none, 0⟩,
   ⟨none, .st 1 (.t 2) (.t 4), none, 0⟩]⟩
theorem c85 : coF Tryz.prog Tryz.f116 = some C85 := by kernel_rfl
def A85 : Ann := { keep := [0, 1, 2], live := [] }
def E85 {Ω : Type} : Env Ω := enil
theorem e85 : GoodE Tryz.prog E85 := GoodE.nil
def S85 {Ω : Type} : Spec Ω := inl E85 A85 C85 false
theorem g85 : Good1 Tryz.prog 116 S85 := Good1.inl e85 mix Tryz.func116 (by kernel_rfl) c85 A85 false
/-- coatcheck/epoch.announce -/
def C86 : CF := ⟨4, [],
 .reg false [⟨some 8, .mv (.t 0), none, 0⟩,
   ⟨some 9, .mv (.t 0), none, 0⟩,
   ⟨some 10, .nilc (.t 9), none, 0⟩,
   ⟨some 11, .fa 0 (.t 10), none, 0⟩,
   ⟨some 12, .ld 8 true (.t 11), none, 0⟩,
   ⟨some 13, .mv (.t 1), none, 0⟩,
   ⟨some 14, .call (.c (.fn (.func 119) [] [])) [.t 12, .t 13], none, 0⟩,
   ⟨some 15, .mv (.t 2), none, 0⟩,
   ⟨some 16, .mv (.t 3), none, 0⟩,
   ⟨some 17, .call (.c (.fn (.func 151) [] [])) [.t 15, .t 16], none, 0⟩,
   ⟨some 18, .call (.c (.fn (.func 81) [] [])) [.t 8, .t 14, .t 17], none, 0⟩]⟩
theorem c86 : coF Tryz.prog Tryz.f117 = some C86 := by kernel_rfl
def A86 : Ann := { keep := [0, 1, 2, 3], live := [] }
def E86 {Ω : Type} : Env Ω := econs 81 S23m (econs 119 S88 (econs 151 S121c (enil)))
theorem e86 : GoodE Tryz.prog E86 := GoodE.cons g23m (GoodE.cons g88 (GoodE.cons g121c (GoodE.nil)))
def S86 {Ω : Type} : Spec Ω := inl E86 A86 C86 false
theorem g86 : Good1 Tryz.prog 117 S86 := Good1.inl e86 mix Tryz.func117 (by kernel_rfl) c86 A86 false
def K54_1 : CC := .seq (.reg true [⟨some 127, .ld 33 true (.t 5), none, 0⟩,
   ⟨some 128, .ld 1 false (.t 9), none, 0⟩,
   ⟨none, .st 33 (.t 6) (.t 127), none, 1⟩,
   ⟨some 7, .mv (.t 128), none, 7⟩,
   ⟨some 8, .mv (.c (.d (.v (.bool true)))), none, 15⟩])
 (.ret)
def K54_2 : CC := .seq (.reg false [⟨some 30, .mv (.t 0), none, 0⟩,
   ⟨some 31, .call (.c (.fn (.func 80) [] [])) [.t 30, .c (.d (.v (.int .i64 0)))], none, 0⟩,
   ⟨some 32, .fa 9 (.t 5), none, 0⟩,
   ⟨none, .st 1 (.t 32) (.t 31), none, 0⟩])
 (.reg false [⟨some 33, .fa 0 (.t 5), none, 0⟩,
   ⟨none, .st 1 (.t 33) (.c (.d (.v (.int .i64 2)))), none, 0⟩])
def K54_3 : CC := .seq (.reg false [⟨some 36, .mv (.t 0), none, 0⟩,
   ⟨some 37, .mv (.t 1), none, 0⟩,
   ⟨some 38, .fa 9 (.t 5), none, 0⟩,
   ⟨some 39, .ld 1 false (.t 38), none, 0⟩,
   ⟨some 40, .call (.c (.fn (.func 117) [] [])) [.t 36, .t 37, .t 39, .c (.d (.v (.bool true)))], none, 0⟩])
 (.reg false [⟨some 41, .fa 0 (.t 5), none, 0⟩,
   ⟨none, .st 1 (.t 41) (.c (.d (.v (.int .i64 3)))), none, 0⟩])
def K54_4 : CC := .seq (.reg false [⟨some 44, .mv (.t 0), none, 0⟩,
   ⟨some 45, .call (.c (.fn (.func 80) [] [])) [.t 44, .c (.d (.v (.int .i64 0)))], none, 0⟩,
   ⟨some 11, .mv (.t 45), none, 0⟩])
 (.seq (.reg false [⟨some 46, .mv (.t 11), none, 0⟩,
   ⟨some 47, .fa 9 (.t 5), none, 0⟩,
   ⟨some 48, .ld 1 false (.t 47), none, 0⟩,
   ⟨some 49, .eq .int false (.t 46) (.t 48), none, 0⟩])
 (.cond 49 (.reg false [⟨some 50, .mv (.t 10), none, 0⟩,
     ⟨some 51, .call (.t 50) [.c (.d (.v (.int .i64 1)))], none, 0⟩])
   (.reg false [⟨some 52, .mv (.t 11), none, 0⟩,
     ⟨some 53, .fa 9 (.t 5), none, 0⟩,
     ⟨none, .st 1 (.t 53) (.t 52), none, 0⟩,
     ⟨some 54, .fa 0 (.t 5), none, 0⟩,
     ⟨none, .st 1 (.t 54) (.c (.d (.v (.int .i64 2)))), none, 0⟩])))
def K54_5 : CC := .seq (.reg false [⟨some 57, .mv (.t 0), none, 0⟩,
   ⟨some 58, .mv (.t 1), none, 0⟩,
   ⟨some 59, .fa 9 (.t 5), none, 0⟩,
   ⟨some 60, .ld 1 false (.t 59), none, 0⟩,
   ⟨some 61, .call (.c (.fn (.func 117) [] [])) [.t 57, .t 58, .t 60, .c (.d (.v (.bool false)))], none, 0⟩])
 (.reg false [⟨some 62, .mv (.t 10), none, 0⟩,
   ⟨some 63, .call (.t 62) [.c (.d (.v (.int .i64 1)))], none, 0⟩])
def K54_6 : CC := .seq (.reg false [⟨some 66, .mv (.t 0), none, 0⟩,
   ⟨some 67, .call (.c (.fn (.func 80) [] [])) [.t 66, .c (.d (.v (.int .i64 0)))], none, 0⟩,
   ⟨some 68, .fa 25 (.t 5), none, 0⟩,
   ⟨none, .st 1 (.t 68) (.t 67), none, 0⟩,
   ⟨some 69, .fa 28 (.t 5), none, 0⟩,
   ⟨none, .st 1 (.t 69) (.c (.d (.v (.int .i64 0)))), none, 0⟩])
 (.reg false [⟨some 70, .fa 0 (.t 5), none, 0⟩,
   ⟨none, .st 1 (.t 70) (.c (.d (.v (.int .i64 71)))), none, 0⟩])
def K54_7 : CC := .cond 90 (.reg false [⟨some 98, .mv (.t 10), none, 0⟩,
     ⟨some 99, .call (.t 98) [.c (.d (.v (.int .i64 2)))], none, 0⟩])
   (.seq (.reg true [⟨some 101, .fa 28 (.t 5), none, 0⟩,
     ⟨some 102, .ld 1 false (.t 101), none, 1⟩,
     ⟨some 103, .mv (.t 0), none, 0⟩,
     ⟨some 104, .nilc (.t 103), none, 4⟩,
     ⟨some 105, .fa 0 (.t 104), none, 12⟩,
     ⟨some 106, .fa 0 (.t 105), none, 28⟩,
     ⟨some 107, .fa 0 (.t 106), none, 60⟩,
     ⟨some 108, .ld 1 false (.t 107), none, 124⟩,
     ⟨some 109, .bin .sub (.t 108) (.c (.d (.v (.int .i64 1)))), none, 252⟩,
     ⟨some 110, .bin .geq (.t 102) (.t 109), none, 511⟩,
     ⟨some 100, .mv (.t 110), none, 1023⟩])
   (.cond 100 (.seq (.reg false [⟨some 111, .fa 28 (.t 5), none, 0⟩,
       ⟨some 112, .ld 1 false (.t 111), none, 0⟩,
       ⟨some 113, .bin .add (.t 112) (.c (.d (.v (.int .i64 1)))), none, 0⟩,
       ⟨some 114, .fa 28 (.t 5), none, 0⟩,
       ⟨none, .st 1 (.t 114) (.t 113), none, 0⟩])
     (.reg false [⟨some 115, .fa 0 (.t 5), none, 0⟩,
       ⟨none, .st 1 (.t 115) (.c (.d (.v (.int .i64 72)))), none, 0⟩]))
     (.reg false [⟨some 86, .fa 28 (.t 5), none, 0⟩,
       ⟨some 87, .ld 1 false (.t 86), none, 0⟩,
       ⟨some 88, .bin .add (.t 87) (.c (.d (.v (.int .i64 1)))), none, 0⟩,
       ⟨some 89, .fa 28 (.t 5), none, 0⟩,
       ⟨none, .st 1 (.t 89) (.t 88), none, 0⟩])))
def K54_8 : CC := .reg false [⟨some 91, .mv (.t 13), none, 0⟩,
   ⟨some 92, .mv (.t 91), none, 0⟩,
   ⟨some 93, .mv (.t 12), some (92, true), 0⟩,
   ⟨some 94, .fa 25 (.t 5), some (92, true), 0⟩,
   ⟨some 95, .ld 1 false (.t 94), some (92, true), 0⟩,
   ⟨some 96, .eq .int true (.t 93) (.t 95), some (92, true), 0⟩,
   ⟨some 97, .pick (.t 92) (.t 96) (.c (.d (.v (.bool false)))), none, 0⟩,
   ⟨some 90, .mv (.t 97), none, 0⟩]
def K54_9 : CC := .reg true [⟨some 74, .mv (.t 0), none, 0⟩,
   ⟨some 75, .mv (.t 0), none, 0⟩,
   ⟨some 76, .nilc (.t 75), none, 2⟩,
   ⟨some 77, .fa 0 (.t 76), none, 6⟩,
   ⟨some 78, .ld 8 true (.t 77), none, 14⟩,
   ⟨some 79, .fa 28 (.t 5), none, 0⟩,
   ⟨some 80, .ld 1 false (.t 79), none, 32⟩,
   ⟨some 81, .call (.c (.fn (.func 119) [] [])) [.t 78, .t 80], none, 126⟩,
   ⟨some 82, .call (.c (.fn (.func 80) [] [])) [.t 74, .t 81], none, 255⟩,
   ⟨some 83, .call (.c (.fn (.func 118) [] [])) [.t 82], none, 511⟩,
   ⟨some 73, .mv (.t 83), none, 1023⟩,
   ⟨some 84, .ext 0 (.t 73), none, 2047⟩,
   ⟨some 85, .ext 1 (.t 73), none, 2047⟩,
   ⟨some 12, .mv (.t 84), none, 4095⟩,
   ⟨some 13, .mv (.t 85), none, 16383⟩]
def K54_10 : CC := .seq (.reg false [⟨some 117, .eq .int false (.t 27) (.c (.d (.v (.int .i64 72)))), none, 0⟩,
   ⟨some 116, .mv (.t 117), none, 0⟩])
 (.cond 116 (.seq (.reg false [⟨some 118, .mv (.t 10), none, 0⟩,
     ⟨some 119, .call (.t 118) [.c (.d (.v (.int .i64 2)))], none, 0⟩])
   (.seq (.reg false [⟨some 120, .mv (.t 0), none, 0⟩,
     ⟨some 121, .fa 25 (.t 5), none, 0⟩,
     ⟨some 122, .ld 1 false (.t 121), none, 0⟩,
     ⟨some 123, .fa 25 (.t 5), none, 0⟩,
     ⟨some 124, .ld 1 false (.t 123), none, 0⟩,
     ⟨some 125, .bin .add (.t 124) (.c (.d (.v (.int .u64 1)))), none, 0⟩,
     ⟨some 126, .call (.c (.fn (.func 120) [] [])) [.t 120, .c (.d (.v (.int .i64 0))), .t 122, .t 125], none, 0⟩])
   (.cond 126 (.reg false [⟨none, .st 1 (.t 9) (.c (.d (.v (.int .i64 1)))), none, 0⟩])
     (.skip))))
   (.skip))
def K54_11 : CC := .reg false [⟨some 72, .eq .int false (.t 27) (.c (.d (.v (.int .i64 71)))), none, 0⟩,
   ⟨some 71, .mv (.t 72), none, 0⟩]
def K54_12 : CC := .reg false [⟨some 65, .eq .int false (.t 27) (.c (.d (.v (.int .i64 70)))), none, 0⟩,
   ⟨some 64, .mv (.t 65), none, 0⟩]
def K54_13 : CC := .reg false [⟨some 56, .eq .int false (.t 27) (.c (.d (.v (.int .i64 90)))), none, 0⟩,
   ⟨some 55, .mv (.t 56), none, 0⟩]
def K54_14 : CC := .reg false [⟨some 43, .eq .int false (.t 27) (.c (.d (.v (.int .i64 3)))), none, 0⟩,
   ⟨some 42, .mv (.t 43), none, 0⟩]
def K54_15 : CC := .reg false [⟨some 35, .eq .int false (.t 27) (.c (.d (.v (.int .i64 2)))), none, 0⟩,
   ⟨some 34, .mv (.t 35), none, 0⟩]
def K54_16 : CC := .reg false [⟨some 29, .eq .int false (.t 27) (.c (.d (.v (.int .i64 1)))), none, 0⟩,
   ⟨some 28, .mv (.t 29), none, 0⟩]
def K54_17 : CC := .reg false [⟨some 26, .fa 0 (.t 5), none, 0⟩,
   ⟨some 27, .ld 1 false (.t 26), none, 0⟩]
def K54_18 : CC := .reg false [⟨some 25, .mkf (.func 116) [] [.t 5, .t 9], none, 0⟩,
   ⟨some 10, .mv (.t 25), none, 0⟩]
def K54_19 : CC := .reg false [⟨some 9, .newc 3 [.d (.v (.int .i64 0))], none, 0⟩,
   ⟨none, .st 1 (.t 9) (.c (.d (.v (.int .i64 0)))), none, 0⟩]
def K54_20 : CC := .reg false [⟨some 23, .mv (.t 0), none, 0⟩,
   ⟨some 24, .call (.c (.fn (.func 77) [] [])) [.t 23], none, 0⟩]
def K54_21 : CC := .seq (.reg false [⟨some 14, .mv (.t 0), none, 0⟩,
   ⟨some 15, .eq .ptr false (.t 14) (.c (.d (.v (.pointer none)))), none, 0⟩,
   ⟨some 16, .mv (.t 15), none, 0⟩,
   ⟨some 17, .fa 0 (.t 5), some (16, false), 0⟩,
   ⟨some 18, .ld 1 false (.t 17), some (16, false), 0⟩,
   ⟨some 19, .call (.c (.fn (.func 115) [] [])) [.t 18], some (16, false), 0⟩,
   ⟨some 20, .un .not (.t 19), some (16, false), 0⟩,
   ⟨some 21, .pick (.t 16) (.c (.d (.v (.bool true)))) (.t 20), none, 0⟩])
 (.cond 21 (.seq (.reg false [⟨some 22, .ld 33 true (.t 5), none, 0⟩,
     ⟨none, .st 33 (.t 6) (.t 22), none, 0⟩,
     ⟨some 7, .mv (.c (.d (.v (.int .i64 0)))), none, 0⟩,
     ⟨some 8, .mv (.c (.d (.v (.bool false)))), none, 0⟩])
   (.ret))
   (.skip))
def K54_22 : CC := .reg false [⟨some 5, .box 56 33 (.t 2), none, 0⟩,
   ⟨some 6, .newc 56 [.d (.v (.int .i64 0)), .d (.v (.int .i64 0)), .d (.v (.int .u64 0)), .d (.v (.int .u64 0)), .d (.v (.int .i64 0)), .d (.v (.bool false)), .d (.v (.int .i64 0)), .d (.v (.int .i64 0)), .d (.v (.bool false)), .d (.v (.int .u64 0)), .d (.v (.slice none 0 0)), .d (.v (.int .u64 0)), .d (.v (.slice none 0 0)), .d (.v (.int .u64 0)), .d (.v (.slice none 0 0)), .d (.v (.int .u64 0)), .d (.v (.slice none 0 0)), .d (.v (.slice none 0 0)), .d (.v (.int .i64 0)), .d (.v (.int .i64 0)), .d (.v (.int .i64 0)), .d (.v (.int .i64 0)), .d (.v (.int .i64 0)), .d (.v (.int .u64 0)), .d (.v (.int .u64 0)), .d (.v (.int .u64 0)), .d (.v (.int .u64 0)), .d (.v (.int .u64 0)), .d (.v (.int .i64 0)), .d (.v (.slice none 0 0)), .d (.v (.int .u64 0)), .d (.v (.int .i64 0)), .d (.v (.bool false))], none, 0⟩,
   ⟨some 7, .mv (.c (.d (.v (.int .i64 0)))), none, 0⟩,
   ⟨some 8, .mv (.c (.d (.v (.bool false)))), none, 0⟩]
/-- coatcheck/epoch.Step -/
def C54 : CF := ⟨3, [(6, some (33, true)), (7, none), (8, none)],
 .seq K54_22 (.seq K54_21 (.seq K54_20 (.seq K54_19 (.seq K54_18 (.seq (.seq K54_17 (.block 0 (.seq K54_16 (.cond 28 K54_2 (.seq K54_15 (.cond 34 K54_3 (.seq K54_14 (.cond 42 K54_4 (.seq K54_13 (.cond 55 K54_5 (.seq K54_12 (.cond 64 K54_6 (.seq K54_11 (.cond 71 (.seq K54_9 (.block 1 (.seq K54_8 K54_7))) K54_10)))))))))))))) K54_1)))))⟩
theorem c54 : coF Tryz.prog Tryz.f85 = some C54 := by kernel_rfl
def A54 : Ann := { keep := [0, 1, 2, 5, 6, 7, 8, 9, 10, 11, 12, 13, 21, 27, 28, 34, 42, 49, 55, 64, 71, 90, 100, 116, 126], live := [] }
def E54 {Ω : Type} : Env Ω := econs 77 S29m (econs 80 S21m (econs 120 S25m (econs 115 S84 (econs 116 S85 (econs 117 S86 (econs 118 S87c (econs 119 S88 (enil))))))))
theorem e54 : GoodE Tryz.prog E54 := GoodE.cons g29m (GoodE.cons g21m (GoodE.cons g25m (GoodE.cons g84 (GoodE.cons g85 (GoodE.cons g86 (GoodE.cons g87c (GoodE.cons g88 (GoodE.nil))))))))
end Go.Sx.Pr

/- The steps of one layer, program and document, against the pure model. -/
namespace Go.Sx.Pr
open Go Go.Sx Go.Sx.Md Go.Proofs
set_option maxRecDepth 100000
end Go.Sx.Pr

namespace Go.Sx.Pr
open Go Go.Sx Go.Proofs
set_option maxRecDepth 100000
/-- coatcheck/stack.sideOf -/
def C76 : CF := ⟨2, [(4, some (3, true))],
 .seq (.reg false [⟨some 3, .box 56 33 (.t 1), none, 0⟩,
   ⟨some 4, .newc 178 [.d (.v (.int .i64 0)), .d (.v (.nilFunc)), .d (.v (.int .i64 0))], none, 0⟩])
 (.seq (.seq (.reg false [⟨some 5, .fa 0 (.t 3), none, 0⟩,
   ⟨some 6, .ld 1 false (.t 5), none, 0⟩,
   ⟨some 7, .bin .lss (.t 6) (.c (.d (.v (.int .i64 20)))), none, 0⟩])
 (.cond 7 (.seq (.reg true [⟨some 8, .mv (.t 0), none, 0⟩,
     ⟨some 9, .nilc (.t 8), none, 1⟩,
     ⟨some 10, .fa 0 (.t 9), none, 3⟩,
     ⟨some 11, .ld 8 true (.t 10), none, 7⟩,
     ⟨some 12, .mkf (.func 113) [.t 11] [], none, 15⟩,
     ⟨some 13, .fa 19 (.t 3), none, 0⟩,
     ⟨some 14, .ld 1 false (.t 13), none, 32⟩,
     ⟨some 15, .bin .sub (.t 14) (.c (.d (.v (.int .i64 1)))), none, 96⟩,
     ⟨some 16, .bld [.d (.v (.int .i64 0)), .d (.v (.nilFunc)), .d (.v (.int .i64 0))] [(0, 1, .c (.d (.v (.int .i64 1)))), (1, 1, .t 12), (2, 1, .t 15)], none, 255⟩,
     ⟨none, .st 3 (.t 4) (.t 16), none, 511⟩])
   (.ret))
   (.skip)))
 (.seq (.reg true [⟨some 17, .mv (.t 0), none, 0⟩,
   ⟨some 18, .nilc (.t 17), none, 1⟩,
   ⟨some 19, .fa 0 (.t 18), none, 3⟩,
   ⟨some 20, .ld 8 true (.t 19), none, 7⟩,
   ⟨some 21, .mkf (.func 72) [.t 20] [], none, 15⟩,
   ⟨some 22, .fa 20 (.t 3), none, 0⟩,
   ⟨some 23, .ld 1 false (.t 22), none, 32⟩,
   ⟨some 24, .bin .sub (.t 23) (.c (.d (.v (.int .i64 1)))), none, 96⟩,
   ⟨some 25, .bld [.d (.v (.int .i64 0)), .d (.v (.nilFunc)), .d (.v (.int .i64 0))] [(0, 1, .c (.d (.v (.int .i64 2)))), (1, 1, .t 21), (2, 1, .t 24)], none, 255⟩,
   ⟨none, .st 3 (.t 4) (.t 25), none, 511⟩])
 (.ret)))⟩
theorem c76 : coF Tryz.prog Tryz.f152 = some C76 := by kernel_rfl
def A76 : Ann := { keep := [0, 1, 3, 4, 7], live := [] }
def E76 {Ω : Type} : Env Ω := econs 113 S117 (econs 72 S112c (enil))
theorem e76 : GoodE Tryz.prog E76 := GoodE.cons g117 (GoodE.cons g112c (GoodE.nil))
def S76 {Ω : Type} : Spec Ω := inl E76 A76 C76 false
theorem g76 : Good1 Tryz.prog 152 S76 := Good1.inl e76 mix Tryz.func152 (by kernel_rfl) c76 A76 false
/-- coatcheck/stack.Step$1 -/
def C77 : CF := ⟨2, [(3, some (33, true)), (4, none), (5, none)],
 .seq (.reg false [⟨some 3, .newc 56 [.d (.v (.int .i64 0)), .d (.v (.int .i64 0)), .d (.v (.int .u64 0)), .d (.v (.int .u64 0)), .d (.v (.int .i64 0)), .d (.v (.bool false)), .d (.v (.int .i64 0)), .d (.v (.int .i64 0)), .d (.v (.bool false)), .d (.v (.int .u64 0)), .d (.v (.slice none 0 0)), .d (.v (.int .u64 0)), .d (.v (.slice none 0 0)), .d (.v (.int .u64 0)), .d (.v (.slice none 0 0)), .d (.v (.int .u64 0)), .d (.v (.slice none 0 0)), .d (.v (.slice none 0 0)), .d (.v (.int .i64 0)), .d (.v (.int .i64 0)), .d (.v (.int .i64 0)), .d (.v (.int .i64 0)), .d (.v (.int .i64 0)), .d (.v (.int .u64 0)), .d (.v (.int .u64 0)), .d (.v (.int .u64 0)), .d (.v (.int .u64 0)), .d (.v (.int .u64 0)), .d (.v (.int .i64 0)), .d (.v (.slice none 0 0)), .d (.v (.int .u64 0)), .d (.v (.int .i64 0)), .d (.v (.bool false))], none, 0⟩,
   ⟨some 4, .mv (.c (.d (.v (.int .i64 0)))), none, 0⟩,
   ⟨some 5, .mv (.c (.d (.v (.bool false)))), none, 0⟩])
 (.seq (.reg false [⟨some 6, .fa 0 (.t 1), none, 0⟩,
   ⟨none, .st 1 (.t 6) (.c (.d (.v (.int .i64 0)))), none, 0⟩])
 (.seq (.reg false [⟨some 7, .ld 33 true (.t 1), none, 0⟩,
   ⟨some 8, .mv (.t 0), none, 0⟩,
   ⟨none, .st 33 (.t 3) (.t 7), none, 0⟩,
   ⟨some 4, .mv (.t 8), none, 0⟩,
   ⟨some 5, .mv (.c (.d (.v (.bool true)))), none, 0⟩])
 (.ret)))⟩
theorem c77 : coF Tryz.prog Tryz.f153 = some C77 := by kernel_rfl
def A77 : Ann := { keep := [0, 1, 3, 4, 5], live := [] }
def E77 {Ω : Type} : Env Ω := enil
theorem e77 : GoodE Tryz.prog E77 := GoodE.nil
def S77 {Ω : Type} : Spec Ω := inl E77 A77 C77 false
theorem g77 : Good1 Tryz.prog 153 S77 := Good1.inl e77 mix Tryz.func153 (by kernel_rfl) c77 A77 false
/-- coatcheck/stack.low -/
def C78 : CF := ⟨1, [(2, none)],
 .seq (.reg false [⟨some 2, .mv (.c (.d (.v (.int .u64 0)))), none, 0⟩])
 (.seq (.reg false [⟨some 3, .mv (.t 0), none, 0⟩,
   ⟨some 4, .conv .u32 (.t 3), none, 0⟩,
   ⟨some 5, .conv .u64 (.t 4), none, 0⟩,
   ⟨some 2, .mv (.t 5), none, 0⟩])
 (.ret))⟩
theorem c78 : coF Tryz.prog Tryz.f154 = some C78 := by kernel_rfl
def A78 : Ann := { keep := [0, 2], live := [] }
def E78 {Ω : Type} : Env Ω := enil
theorem e78 : GoodE Tryz.prog E78 := GoodE.nil
def S78 {Ω : Type} : Spec Ω := inl E78 A78 C78 false
theorem g78 : Good1 Tryz.prog 154 S78 := Good1.inl e78 mix Tryz.func154 (by kernel_rfl) c78 A78 false
/-- coatcheck/stack.above -/
def C79 : CF := ⟨2, [(4, none)],
 .seq (.reg false [⟨some 4, .mv (.c (.d (.v (.int .u64 0)))), none, 0⟩])
 (.seq (.reg false [⟨some 8, .mv (.t 0), none, 0⟩,
   ⟨some 9, .call (.c (.fn (.func 165) [] [])) [.t 8], none, 0⟩,
   ⟨some 7, .mv (.t 9), none, 0⟩,
   ⟨some 10, .ext 0 (.t 7), none, 0⟩,
   ⟨some 11, .ext 1 (.t 7), none, 0⟩,
   ⟨some 5, .mv (.t 10), none, 0⟩,
   ⟨some 6, .mv (.t 11), none, 0⟩])
 (.seq (.reg false [⟨some 12, .mv (.t 1), none, 0⟩,
   ⟨some 13, .mv (.t 6), none, 0⟩,
   ⟨some 14, .bin .add (.t 13) (.c (.d (.v (.int .u64 1)))), none, 0⟩,
   ⟨some 15, .call (.c (.fn (.func 69) [] [])) [.t 12, .t 14], none, 0⟩,
   ⟨some 4, .mv (.t 15), none, 0⟩])
 (.ret)))⟩
theorem c79 : coF Tryz.prog Tryz.f155 = some C79 := by kernel_rfl
def A79 : Ann := { keep := [0, 1, 4, 6], live := [] }
def E79 {Ω : Type} : Env Ω := econs 165 S118c (econs 69 S109c (enil))
theorem e79 : GoodE Tryz.prog E79 := GoodE.cons g118c (GoodE.cons g109c (GoodE.nil))
def S79 {Ω : Type} : Spec Ω := inl E79 A79 C79 false
theorem g79 : Good1 Tryz.prog 155 S79 := Good1.inl e79 mix Tryz.func155 (by kernel_rfl) c79 A79 false
def K45_1 : CC := .seq (.reg false [⟨some 157, .ld 33 true (.t 3), none, 0⟩,
   ⟨none, .st 33 (.t 4) (.t 157), none, 0⟩,
   ⟨some 5, .mv (.c (.d (.v (.int .i64 0)))), none, 0⟩,
   ⟨some 6, .mv (.c (.d (.v (.bool true)))), none, 0⟩])
 (.ret)
def K45_2 : CC := .seq (.reg false [⟨some 54, .fa 25 (.t 3), none, 0⟩,
   ⟨some 55, .ld 1 false (.t 54), none, 0⟩,
   ⟨some 56, .call (.c (.fn (.func 154) [] [])) [.t 55], none, 0⟩,
   ⟨some 57, .fa 23 (.t 3), none, 0⟩,
   ⟨none, .st 1 (.t 57) (.t 56), none, 0⟩])
 (.seq (.seq (.reg false [⟨some 58, .fa 23 (.t 3), none, 0⟩,
   ⟨some 59, .ld 1 false (.t 58), none, 0⟩,
   ⟨some 60, .eq .int false (.t 59) (.c (.d (.v (.int .u64 0)))), none, 0⟩])
 (.cond 60 (.seq (.reg false [⟨some 61, .mv (.t 8), none, 0⟩,
     ⟨some 62, .call (.t 61) [.c (.d (.v (.int .i64 2)))], none, 0⟩,
     ⟨some 63, .ext 0 (.t 62), none, 0⟩,
     ⟨some 64, .ext 1 (.t 62), none, 0⟩,
     ⟨some 65, .ext 2 (.t 62), none, 0⟩,
     ⟨none, .st 33 (.t 4) (.t 63), none, 0⟩,
     ⟨some 5, .mv (.t 64), none, 0⟩,
     ⟨some 6, .mv (.t 65), none, 0⟩])
   (.ret))
   (.skip)))
 (.reg false [⟨some 66, .fa 0 (.t 3), none, 0⟩,
   ⟨some 67, .ld 1 false (.t 66), none, 0⟩,
   ⟨some 68, .bin .add (.t 67) (.c (.d (.v (.int .i64 1)))), none, 0⟩,
   ⟨some 69, .fa 0 (.t 3), none, 0⟩,
   ⟨none, .st 1 (.t 69) (.t 68), none, 0⟩]))
def K45_3 : CC := .reg false [⟨some 49, .mv (.t 0), none, 0⟩,
   ⟨some 50, .fa 0 (.t 7), none, 0⟩,
   ⟨some 51, .ld 1 false (.t 50), none, 0⟩,
   ⟨some 52, .call (.c (.fn (.func 80) [] [])) [.t 49, .t 51], none, 0⟩,
   ⟨some 53, .fa 25 (.t 3), none, 0⟩,
   ⟨none, .st 1 (.t 53) (.t 52), none, 0⟩]
def K45_4 : CC := .seq (.reg false [⟨some 72, .mv (.t 0), none, 0⟩,
   ⟨some 73, .fa 1 (.t 7), none, 0⟩,
   ⟨some 74, .ld 1 false (.t 73), none, 0⟩,
   ⟨some 75, .fa 23 (.t 3), none, 0⟩,
   ⟨some 76, .ld 1 false (.t 75), none, 0⟩,
   ⟨some 77, .conv .i64 (.t 76), none, 0⟩,
   ⟨some 78, .bin .sub (.t 77) (.c (.d (.v (.int .i64 1)))), none, 0⟩,
   ⟨some 79, .call (.t 74) [.t 78], none, 0⟩,
   ⟨some 80, .call (.c (.fn (.func 80) [] [])) [.t 72, .t 79], none, 0⟩,
   ⟨some 81, .fa 24 (.t 3), none, 0⟩,
   ⟨none, .st 1 (.t 81) (.t 80), none, 0⟩])
 (.reg false [⟨some 82, .fa 0 (.t 3), none, 0⟩,
   ⟨some 83, .ld 1 false (.t 82), none, 0⟩,
   ⟨some 84, .bin .add (.t 83) (.c (.d (.v (.int .i64 1)))), none, 0⟩,
   ⟨some 85, .fa 0 (.t 3), none, 0⟩,
   ⟨none, .st 1 (.t 85) (.t 84), none, 0⟩])
def K45_5 : CC := .seq (.seq (.reg true [⟨some 88, .mv (.t 0), none, 0⟩,
   ⟨some 89, .fa 0 (.t 7), none, 0⟩,
   ⟨some 90, .ld 1 false (.t 89), none, 2⟩,
   ⟨some 91, .fa 25 (.t 3), none, 0⟩,
   ⟨some 92, .ld 1 false (.t 91), none, 8⟩,
   ⟨some 93, .fa 25 (.t 3), none, 0⟩,
   ⟨some 94, .ld 1 false (.t 93), none, 32⟩,
   ⟨some 95, .fa 24 (.t 3), none, 0⟩,
   ⟨some 96, .ld 1 false (.t 95), none, 128⟩,
   ⟨some 97, .call (.c (.fn (.func 154) [] [])) [.t 96], none, 384⟩,
   ⟨some 98, .conv .i64 (.t 97), none, 896⟩,
   ⟨some 99, .bin .sub (.t 98) (.c (.d (.v (.int .i64 1)))), none, 1920⟩,
   ⟨some 100, .call (.c (.fn (.func 155) [] [])) [.t 94, .t 99], none, 4064⟩,
   ⟨some 101, .call (.c (.fn (.func 120) [] [])) [.t 88, .t 90, .t 92, .t 100], none, 8191⟩])
 (.cond 101 (.seq (.reg false [⟨some 102, .mv (.t 8), none, 0⟩,
     ⟨some 103, .call (.t 102) [.c (.d (.v (.int .i64 1)))], none, 0⟩,
     ⟨some 104, .ext 0 (.t 103), none, 0⟩,
     ⟨some 105, .ext 1 (.t 103), none, 0⟩,
     ⟨some 106, .ext 2 (.t 103), none, 0⟩,
     ⟨none, .st 33 (.t 4) (.t 104), none, 0⟩,
     ⟨some 5, .mv (.t 105), none, 0⟩,
     ⟨some 6, .mv (.t 106), none, 0⟩])
   (.ret))
   (.skip)))
 (.reg false [⟨some 107, .mv (.t 9), none, 0⟩,
   ⟨some 108, .fa 0 (.t 3), none, 0⟩,
   ⟨none, .st 1 (.t 108) (.t 107), none, 0⟩])
def K45_6 : CC := .seq (.reg false [⟨some 111, .mv (.t 0), none, 0⟩,
   ⟨some 112, .fa 0 (.t 7), none, 0⟩,
   ⟨some 113, .ld 1 false (.t 112), none, 0⟩,
   ⟨some 114, .call (.c (.fn (.func 80) [] [])) [.t 111, .t 113], none, 0⟩,
   ⟨some 115, .fa 25 (.t 3), none, 0⟩,
   ⟨none, .st 1 (.t 115) (.t 114), none, 0⟩])
 (.reg false [⟨some 116, .fa 0 (.t 3), none, 0⟩,
   ⟨some 117, .ld 1 false (.t 116), none, 0⟩,
   ⟨some 118, .bin .add (.t 117) (.c (.d (.v (.int .i64 1)))), none, 0⟩,
   ⟨some 119, .fa 0 (.t 3), none, 0⟩,
   ⟨none, .st 1 (.t 119) (.t 118), none, 0⟩])
def K45_7 : CC := .seq (.reg true [⟨some 122, .mv (.t 0), none, 0⟩,
   ⟨some 123, .fa 1 (.t 7), none, 0⟩,
   ⟨some 124, .ld 1 false (.t 123), none, 2⟩,
   ⟨some 125, .fa 2 (.t 7), none, 0⟩,
   ⟨some 126, .ld 1 false (.t 125), none, 8⟩,
   ⟨some 127, .call (.t 124) [.t 126], none, 30⟩,
   ⟨some 128, .fa 25 (.t 3), none, 0⟩,
   ⟨some 129, .ld 1 false (.t 128), none, 64⟩,
   ⟨some 130, .call (.c (.fn (.func 154) [] [])) [.t 129], none, 254⟩,
   ⟨some 131, .call (.c (.fn (.func 81) [] [])) [.t 122, .t 127, .t 130], none, 511⟩])
 (.reg false [⟨some 132, .fa 0 (.t 3), none, 0⟩,
   ⟨some 133, .ld 1 false (.t 132), none, 0⟩,
   ⟨some 134, .bin .add (.t 133) (.c (.d (.v (.int .i64 1)))), none, 0⟩,
   ⟨some 135, .fa 0 (.t 3), none, 0⟩,
   ⟨none, .st 1 (.t 135) (.t 134), none, 0⟩])
def K45_8 : CC := .seq (.reg false [⟨some 137, .eq .int false (.t 46) (.c (.d (.v (.int .i64 5)))), none, 0⟩,
   ⟨some 136, .mv (.t 137), none, 0⟩])
 (.cond 136 (.seq (.seq (.reg true [⟨some 138, .mv (.t 0), none, 0⟩,
     ⟨some 139, .fa 0 (.t 7), none, 0⟩,
     ⟨some 140, .ld 1 false (.t 139), none, 2⟩,
     ⟨some 141, .fa 25 (.t 3), none, 0⟩,
     ⟨some 142, .ld 1 false (.t 141), none, 8⟩,
     ⟨some 143, .fa 25 (.t 3), none, 0⟩,
     ⟨some 144, .ld 1 false (.t 143), none, 32⟩,
     ⟨some 145, .fa 2 (.t 7), none, 0⟩,
     ⟨some 146, .ld 1 false (.t 145), none, 128⟩,
     ⟨some 147, .call (.c (.fn (.func 155) [] [])) [.t 144, .t 146], none, 480⟩,
     ⟨some 148, .call (.c (.fn (.func 120) [] [])) [.t 138, .t 140, .t 142, .t 147], none, 1023⟩])
   (.cond 148 (.seq (.reg false [⟨some 149, .mv (.t 8), none, 0⟩,
       ⟨some 150, .call (.t 149) [.c (.d (.v (.int .i64 1)))], none, 0⟩,
       ⟨some 151, .ext 0 (.t 150), none, 0⟩,
       ⟨some 152, .ext 1 (.t 150), none, 0⟩,
       ⟨some 153, .ext 2 (.t 150), none, 0⟩,
       ⟨none, .st 33 (.t 4) (.t 151), none, 0⟩,
       ⟨some 5, .mv (.t 152), none, 0⟩,
       ⟨some 6, .mv (.t 153), none, 0⟩])
     (.ret))
     (.skip)))
   (.reg false [⟨some 154, .mv (.t 9), none, 0⟩,
     ⟨some 155, .bin .add (.t 154) (.c (.d (.v (.int .i64 3)))), none, 0⟩,
     ⟨some 156, .fa 0 (.t 3), none, 0⟩,
     ⟨none, .st 1 (.t 156) (.t 155), none, 0⟩]))
   (.skip))
def K45_9 : CC := .reg false [⟨some 121, .eq .int false (.t 46) (.c (.d (.v (.int .i64 4)))), none, 0⟩,
   ⟨some 120, .mv (.t 121), none, 0⟩]
def K45_10 : CC := .reg false [⟨some 110, .eq .int false (.t 46) (.c (.d (.v (.int .i64 3)))), none, 0⟩,
   ⟨some 109, .mv (.t 110), none, 0⟩]
def K45_11 : CC := .reg false [⟨some 87, .eq .int false (.t 46) (.c (.d (.v (.int .i64 2)))), none, 0⟩,
   ⟨some 86, .mv (.t 87), none, 0⟩]
def K45_12 : CC := .reg false [⟨some 71, .eq .int false (.t 46) (.c (.d (.v (.int .i64 1)))), none, 0⟩,
   ⟨some 70, .mv (.t 71), none, 0⟩]
def K45_13 : CC := .reg false [⟨some 48, .eq .int false (.t 46) (.c (.d (.v (.int .i64 0)))), none, 0⟩,
   ⟨some 47, .mv (.t 48), none, 0⟩]
def K45_14 : CC := .reg false [⟨some 43, .fa 0 (.t 3), none, 0⟩,
   ⟨some 44, .ld 1 false (.t 43), none, 0⟩,
   ⟨some 45, .mv (.t 9), none, 0⟩,
   ⟨some 46, .bin .sub (.t 44) (.t 45), none, 0⟩]
def K45_15 : CC := .reg false [⟨some 39, .fa 0 (.t 3), none, 0⟩,
   ⟨some 40, .ld 1 false (.t 39), none, 0⟩,
   ⟨some 41, .bin .quo (.t 40) (.c (.d (.v (.int .i64 10)))), none, 0⟩,
   ⟨some 42, .bin .mul (.t 41) (.c (.d (.v (.int .i64 10)))), none, 0⟩,
   ⟨some 9, .mv (.t 42), none, 0⟩]
def K45_16 : CC := .reg false [⟨some 38, .mkf (.func 153) [] [.t 3], none, 0⟩,
   ⟨some 8, .mv (.t 38), none, 0⟩]
def K45_17 : CC := .reg false [⟨some 35, .mv (.t 0), none, 0⟩,
   ⟨some 36, .ld 33 true (.t 3), none, 0⟩,
   ⟨some 37, .call (.c (.fn (.func 152) [] [])) [.t 35, .t 36], none, 0⟩,
   ⟨some 7, .newc 178 [.d (.v (.int .i64 0)), .d (.v (.nilFunc)), .d (.v (.int .i64 0))], none, 0⟩,
   ⟨none, .st 3 (.t 7) (.t 37), none, 0⟩]
def K45_18 : CC := .reg false [⟨some 33, .mv (.t 0), none, 0⟩,
   ⟨some 34, .call (.c (.fn (.func 77) [] [])) [.t 33], none, 0⟩]
def K45_19 : CC := .cond 31 (.seq (.reg false [⟨some 32, .ld 33 true (.t 3), none, 0⟩,
     ⟨none, .st 33 (.t 4) (.t 32), none, 0⟩,
     ⟨some 5, .mv (.c (.d (.v (.int .i64 0)))), none, 0⟩,
     ⟨some 6, .mv (.c (.d (.v (.bool false)))), none, 0⟩])
   (.ret))
   (.skip)
def K45_20 : CC := .reg false [⟨some 10, .mv (.t 0), none, 0⟩,
   ⟨some 11, .eq .ptr false (.t 10) (.c (.d (.v (.pointer none)))), none, 0⟩,
   ⟨some 12, .mv (.t 11), none, 0⟩,
   ⟨some 13, .fa 0 (.t 3), some (12, false), 0⟩,
   ⟨some 14, .ld 1 false (.t 13), some (12, false), 0⟩,
   ⟨some 15, .bin .lss (.t 14) (.c (.d (.v (.int .i64 10)))), some (12, false), 0⟩,
   ⟨some 16, .pick (.t 12) (.c (.d (.v (.bool true)))) (.t 15), none, 0⟩,
   ⟨some 17, .mv (.t 16), none, 0⟩,
   ⟨some 18, .fa 0 (.t 3), some (17, false), 0⟩,
   ⟨some 19, .ld 1 false (.t 18), some (17, false), 0⟩,
   ⟨some 20, .bin .gtr (.t 19) (.c (.d (.v (.int .i64 25)))), some (17, false), 0⟩,
   ⟨some 21, .pick (.t 17) (.c (.d (.v (.bool true)))) (.t 20), none, 0⟩,
   ⟨some 22, .mv (.t 21), none, 0⟩,
   ⟨some 23, .fa 0 (.t 3), some (22, false), 0⟩,
   ⟨some 24, .ld 1 false (.t 23), some (22, false), 0⟩,
   ⟨some 25, .bin .gtr (.t 24) (.c (.d (.v (.int .i64 15)))), some (22, false), 0⟩,
   ⟨some 26, .mv (.t 25), some (22, false), 0⟩,
   ⟨some 27, .fa 0 (.t 3), some (26, true), 0⟩,
   ⟨some 28, .ld 1 false (.t 27), some (26, true), 0⟩,
   ⟨some 29, .bin .lss (.t 28) (.c (.d (.v (.int .i64 20)))), some (26, true), 0⟩,
   ⟨some 30, .pick (.t 26) (.t 29) (.c (.d (.v (.bool false)))), some (22, false), 0⟩,
   ⟨some 31, .pick (.t 22) (.c (.d (.v (.bool true)))) (.t 30), none, 0⟩]
def K45_21 : CC := .reg false [⟨some 3, .box 56 33 (.t 1), none, 0⟩,
   ⟨some 4, .newc 56 [.d (.v (.int .i64 0)), .d (.v (.int .i64 0)), .d (.v (.int .u64 0)), .d (.v (.int .u64 0)), .d (.v (.int .i64 0)), .d (.v (.bool false)), .d (.v (.int .i64 0)), .d (.v (.int .i64 0)), .d (.v (.bool false)), .d (.v (.int .u64 0)), .d (.v (.slice none 0 0)), .d (.v (.int .u64 0)), .d (.v (.slice none 0 0)), .d (.v (.int .u64 0)), .d (.v (.slice none 0 0)), .d (.v (.int .u64 0)), .d (.v (.slice none 0 0)), .d (.v (.slice none 0 0)), .d (.v (.int .i64 0)), .d (.v (.int .i64 0)), .d (.v (.int .i64 0)), .d (.v (.int .i64 0)), .d (.v (.int .i64 0)), .d (.v (.int .u64 0)), .d (.v (.int .u64 0)), .d (.v (.int .u64 0)), .d (.v (.int .u64 0)), .d (.v (.int .u64 0)), .d (.v (.int .i64 0)), .d (.v (.slice none 0 0)), .d (.v (.int .u64 0)), .d (.v (.int .i64 0)), .d (.v (.bool false))], none, 0⟩,
   ⟨some 5, .mv (.c (.d (.v (.int .i64 0)))), none, 0⟩,
   ⟨some 6, .mv (.c (.d (.v (.bool false)))), none, 0⟩]
/-- coatcheck/stack.Step -/
def C45 : CF := ⟨2, [(4, some (33, true)), (5, none), (6, none)],
 .seq K45_21 (.seq (.seq K45_20 K45_19) (.seq K45_18 (.seq K45_17 (.seq K45_16 (.seq K45_15 (.seq (.seq K45_14 (.block 0 (.seq K45_13 (.cond 47 (.seq K45_3 K45_2) (.seq K45_12 (.cond 70 K45_4 (.seq K45_11 (.cond 86 K45_5 (.seq K45_10 (.cond 109 K45_6 (.seq K45_9 (.cond 120 K45_7 K45_8)))))))))))) K45_1))))))⟩
theorem c45 : coF Tryz.prog Tryz.f133 = some C45 := by kernel_rfl
def A45 : Ann := { keep := [0, 1, 3, 4, 5, 6, 7, 8, 9, 31, 46, 47, 60, 70, 86, 101, 109, 120, 136, 148], live := [] }
def E45 {Ω : Type} : Env Ω := econs 81 S23m (econs 77 S29m (econs 152 S76 (econs 153 S77 (econs 80 S21m (econs 154 S78 (econs 120 S25m (econs 155 S79 (econs 113 S117 (econs 72 S112c (enil))))))))))
theorem e45 : GoodE Tryz.prog E45 := GoodE.cons g23m (GoodE.cons g29m (GoodE.cons g76 (GoodE.cons g77 (GoodE.cons g21m (GoodE.cons g78 (GoodE.cons g25m (GoodE.cons g79 (GoodE.cons g117 (GoodE.cons g112c (GoodE.nil))))))))))
end Go.Sx.Pr

/- The steps of one layer, program and document, against the pure model. -/
namespace Go.Sx.Pr
open Go Go.Sx Go.Sx.Md Go.Proofs
set_option maxRecDepth 100000
end Go.Sx.Pr

namespace Go.Sx.Pr
open Go Go.Sx Go.Proofs
set_option maxRecDepth 100000
def K98_1 : CC := .seq (.seq (.reg false [⟨some 9, .mv (.t 0), none, 0⟩,
   ⟨some 10, .call (.c (.fn (.func 124) [] [])) [.t 9], none, 0⟩,
   ⟨some 8, .mv (.t 10), none, 0⟩,
   ⟨some 11, .ext 0 (.t 8), none, 0⟩,
   ⟨some 12, .ext 1 (.t 8), none, 0⟩,
   ⟨some 13, .ext 2 (.t 8), none, 0⟩,
   ⟨some 5, .mv (.t 11), none, 0⟩,
   ⟨some 6, .mv (.t 12), none, 0⟩,
   ⟨some 7, .mv (.t 13), none, 0⟩])
 (.seq (.reg false [⟨some 14, .mv (.t 5), none, 0⟩])
 (.block 0 (.seq (.reg false [⟨some 16, .eq .int false (.t 14) (.c (.d (.v (.int .i64 0)))), none, 0⟩,
     ⟨some 15, .mv (.t 16), none, 0⟩])
   (.cond 15 (.seq (.reg false [⟨some 4, .mv (.c (.d (.v (.bool true)))), none, 0⟩])
     (.ret))
     (.seq (.reg false [⟨some 18, .eq .int false (.t 14) (.c (.d (.v (.int .i64 3)))), none, 0⟩,
       ⟨some 17, .mv (.t 18), none, 0⟩])
     (.cond 17 (.seq (.reg false [⟨some 19, .mv (.t 1), none, 0⟩,
         ⟨some 20, .bin .geq (.t 19) (.c (.d (.v (.int .u64 2)))), none, 0⟩,
         ⟨some 21, .mv (.t 20), none, 0⟩,
         ⟨some 22, .mv (.t 7), some (21, true), 0⟩,
         ⟨some 23, .mv (.t 1), some (21, true), 0⟩,
         ⟨some 24, .bin .sub (.t 23) (.c (.d (.v (.int .u64 2)))), some (21, true), 0⟩,
         ⟨some 25, .bin .leq (.t 22) (.t 24), some (21, true), 0⟩,
         ⟨some 26, .pick (.t 21) (.t 25) (.c (.d (.v (.bool false)))), none, 0⟩,
         ⟨some 4, .mv (.t 26), none, 0⟩])
       (.ret))
       (.skip))))))))
 (.seq (.reg false [⟨some 4, .mv (.c (.d (.v (.bool false)))), none, 0⟩])
 (.ret))
def K98_2 : CC := .reg false [⟨some 4, .mv (.c (.d (.v (.bool false)))), none, 0⟩]
/-- coatcheck/slab.Ready -/
def C98 : CF := ⟨2, [(4, none)],
 .seq K98_2 K98_1⟩
theorem c98 : coF Tryz.prog Tryz.f129 = some C98 := by kernel_rfl
def A98 : Ann := { keep := [0, 1, 4, 5, 7, 14, 15, 17], live := [] }
def E98 {Ω : Type} : Env Ω := econs 124 S94c (enil)
theorem e98 : GoodE Tryz.prog E98 := GoodE.cons g94c (GoodE.nil)
/-- (coatcheck/plan.Plan).Home -/
def C96 : CF := ⟨2, [(4, none)],
 .seq (.reg false [⟨some 2, .box 87 8 (.t 0), none, 0⟩,
   ⟨some 4, .mv (.c (.d (.v (.int .i64 0)))), none, 0⟩])
 (.seq (.seq (.reg false [⟨some 5, .ld 8 true (.t 2), none, 0⟩,
   ⟨some 6, .mv (.t 1), none, 0⟩,
   ⟨some 7, .call (.c (.fn (.func 113) [] [])) [.t 5, .t 6], none, 0⟩,
   ⟨some 8, .bin .lss (.t 7) (.c (.d (.v (.int .i64 0)))), none, 0⟩])
 (.cond 8 (.seq (.reg false [⟨some 4, .mv (.c (.d (.v (.int .i64 (-1))))), none, 0⟩])
   (.ret))
   (.skip)))
 (.seq (.reg false [⟨some 9, .mv (.t 1), none, 0⟩,
   ⟨some 10, .fa 0 (.t 2), none, 0⟩,
   ⟨some 11, .fa 2 (.t 10), none, 0⟩,
   ⟨some 12, .ld 1 false (.t 11), none, 0⟩,
   ⟨some 13, .bin .quo (.t 9) (.t 12), none, 0⟩,
   ⟨some 4, .mv (.t 13), none, 0⟩])
 (.ret)))⟩
theorem c96 : coF Tryz.prog Tryz.f127 = some C96 := by kernel_rfl
def A96 : Ann := { keep := [0, 1, 2, 4, 8], live := [] }
def E96 {Ω : Type} : Env Ω := econs 113 S117 (enil)
theorem e96 : GoodE Tryz.prog E96 := GoodE.cons g117 (GoodE.nil)
end Go.Sx.Pr

/- Ready and Home of both layers: what they answer. -/
namespace Go.Sx.Pr
open Go Go.Sx Go.Sx.Md Go.Proofs
set_option maxRecDepth 100000
theorem n98 {Ω : Type} (K : SV → SH → Option Ω) (w e : Int) :
    sxFn E98 A98 C98 [U w, U e] [] K =
    br (uB w) (br (w % 16 == 0) (K (B true) []) (br (w % 16 == 3) (br (decide (e ≥ 2)) (K (B (decide (w / 65536 ≤ IntKind.wrap .u64 (e - 2)))) []) (K (B false) [])) (K (B false) []))) none := by kernel_rfl
theorem n96 {Ω : Type} (K : SV → SH → Option Ω) (a b c d e f g l x : Int) :
    sxFn E96 A96 C96 [cfgS a b c d e f g l, I x] [] K =
    br (decide (atV a b c d e f g l 5 x 0 < 0)) (K (I (-1)) (H49 a b c d e f g l)) (br (c == 0) none (K (I (IntKind.wrap .i64 (Int.tdiv x c))) (H49 a b c d e f g l))) := by kernel_rfl

def FReady : List (List Int) → Option (Bool × SV × SH)
  | [[w], [e]] => some (uB w && uB e, B (readyV w e), [])
  | _ => none
theorem v98 {w e : Int} (hw : uB w = true) (he : uB e = true) : sxFn E98 A98 C98 [U w, U e] [] KS = some (B (readyV w e), []) := by
  have he' := uB_iff.1 he
  rw [n98, hw, br_t]
  unfold readyV
  cases h1 : (w % 16 == 0) with
  | true => rw [br_t]; rfl
  | false =>
    rw [br_f]
    cases h2 : (w % 16 == 3) with
    | false => rw [br_f]; rfl
    | true =>
      rw [br_t]
      by_cases h3 : 2 ≤ e
      · rw [decide_eq_true (show e ≥ 2 from h3), br_t]
        rw [show IntKind.wrap .u64 (e - 2) = e - 2 by rw [IntKind.wrap_u64]; omega]
        simp only [Bool.true_and, Bool.false_or]
      · rw [decide_eq_false (show ¬ e ≥ 2 from h3), br_f]
        rfl
def S98c {Ω : Type} : Spec Ω := conSpec [.i .u64, .i .u64] FReady
theorem g98c : Good1 Tryz.prog 129 S98c := conGood Tryz.func129 (by kernel_rfl) c98 e98 mix (A := A98) fun L r hr hl hF => by
  obtain ⟨q0, l0, rfl, z0, hl1⟩ := lenAs_cons hl
  obtain ⟨w, rfl⟩ := one_of' z0
  obtain ⟨q1, l1, rfl, z1, hl2⟩ := lenAs_cons hl1
  obtain ⟨e, rfl⟩ := one_of' z1
  have hz := lenAs_nil hl2
  subst hz
  simp only [FReady, Option.some.injEq, Prod.mk.injEq, Bool.and_eq_true] at hF
  obtain ⟨⟨hw, he⟩, rfl, rfl⟩ := hF
  exact ⟨trivial, trivial, [], trim_none rfl _, v98 hw he⟩
section
variable (a b c d e f g l x : Int)
theorem x96 : sxFn E96 A96 C96 [cfgS a b c d e f g l, I x] [] KS = some (I (homeV ⟨a, b, c, d, e, f, g, l⟩ x), H49 a b c d e f g l) := by
  rw [n96]
  unfold homeV chkC
  by_cases hc : chk a b c d e f g l = 0
  · obtain ⟨⟨a1, a2⟩, ⟨b1, b2⟩, ⟨c1, c2⟩, ⟨d1, d2⟩, ⟨e1, e2⟩, _⟩ := chk_zero hc
    rw [at5 hc]
    simp only [hc, beq_self_eq_true, Bool.true_and]
    by_cases h : 0 ≤ x ∧ x < b * c
    · have hp : 0 ≤ (1 + d) * x := Int.mul_nonneg (by omega) h.1
      rw [if_pos h, decide_eq_false (by omega), br_f, show (c == 0) = false by simp; omega, br_f, decide_eq_true h.1, decide_eq_true h.2, Bool.true_and, cond_true]
      have hd : Int.tdiv x c = x / c := Int.tdiv_eq_ediv_of_nonneg h.1
      have h0 : 0 ≤ x / c := Int.ediv_nonneg h.1 (by omega)
      have h1 : x / c < b := Int.ediv_lt_of_lt_mul (by omega) h.2
      rw [hd, w64 (by omega) (by omega)]
    · rw [if_neg h, decide_eq_true (by omega), br_t]
      have : (decide (0 ≤ x) && decide (x < b * c)) = false := by
        rw [Bool.and_eq_false_iff, decide_eq_false_iff_not, decide_eq_false_iff_not]
        by_cases h1 : 0 ≤ x
        · exact .inr fun h2 => h ⟨h1, h2⟩
        · exact .inl h1
      rw [this, cond_false]
  · rw [atV_bad hc, decide_eq_true (by omega), br_t]
    have : (chk a b c d e f g l == 0) = false := by simp [hc]
    simp only [this, Bool.false_and, cond_false]

end
def FHome : List (List Int) → Option (Bool × SV × SH)
  | [[a, b, c, d, e, f, g, l], [i]] => some (true, I (homeV ⟨a, b, c, d, e, f, g, l⟩ i), [])
  | _ => none
def S96c {Ω : Type} : Spec Ω := conSpec [.g cfgK, .i .i64] FHome
theorem g96c : Good1 Tryz.prog 127 S96c := conGood Tryz.func127 (by kernel_rfl) c96 e96 mix (A := A96) fun L r hr hl hF => by
  obtain ⟨p, q, rfl, hp, s, q2, rfl, hs, hq⟩ := hl
  simp only [lenAs] at hq
  subst hq
  obtain ⟨a, b, c, d, e, f, g, l, rfl⟩ := eight hp
  obtain ⟨i, rfl⟩ := one_of hs
  simp only [FHome, Option.some.injEq, Prod.mk.injEq, true_and] at hF
  obtain ⟨rfl, rfl⟩ := hF
  exact ⟨trivial, trivial, _, trim_none rfl _, x96 a b c d e f g l i⟩
end Go.Sx.Pr
