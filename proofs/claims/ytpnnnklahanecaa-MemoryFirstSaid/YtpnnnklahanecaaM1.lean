/- Pieces of the code of functions, compiled for the symbolic interpreter, each checked against the program; no conditions. -/
import Derived.Test.YtpnnnklahanecaaP42
import Derived.Test.YtpnnnklahanecaaRows
import Derived.KernelRfl
namespace Go.Sx.Pr
open Go Go.Sx Go.Proofs
set_option maxRecDepth 100000
/-- coatcheck/plan.New -/
def C63 : CF := ⟨1, [(2, some (8, true)), (3, none)],
 .seq (.reg false [⟨some 1, .box 24 8 (.t 0), none, 0⟩,
   ⟨some 2, .newc 49 [.d (.v (.int .i64 0)), .d (.v (.int .i64 0)), .d (.v (.int .i64 0)), .d (.v (.int .i64 0)), .d (.v (.int .i64 0)), .d (.v (.int .i64 0)), .d (.v (.int .i64 0)), .d (.v (.int .u64 0))], none, 0⟩,
   ⟨some 3, .mv (.c (.d (.v (.int .i64 0)))), none, 0⟩])
 (.seq (.seq (.reg false [⟨some 5, .ld 8 true (.t 1), none, 0⟩,
   ⟨some 6, .call (.c (.fn (.func 106) [] [])) [.t 5], none, 0⟩,
   ⟨some 4, .mv (.t 6), none, 0⟩])
 (.seq (.reg false [⟨some 7, .mv (.t 4), none, 0⟩,
   ⟨some 8, .eq .int true (.t 7) (.c (.d (.v (.int .i64 0)))), none, 0⟩])
 (.cond 8 (.seq (.reg false [⟨some 9, .bld [.d (.v (.int .i64 0)), .d (.v (.int .i64 0)), .d (.v (.int .i64 0)), .d (.v (.int .i64 0)), .d (.v (.int .i64 0)), .d (.v (.int .i64 0)), .d (.v (.int .i64 0)), .d (.v (.int .u64 0))] [], none, 0⟩,
     ⟨some 10, .mv (.t 4), none, 0⟩,
     ⟨none, .st 8 (.t 2) (.t 9), none, 0⟩,
     ⟨some 3, .mv (.t 10), none, 0⟩])
   (.ret))
   (.skip))))
 (.seq (.reg false [⟨some 11, .ld 8 true (.t 1), none, 0⟩,
   ⟨some 12, .bld [.d (.v (.int .i64 0)), .d (.v (.int .i64 0)), .d (.v (.int .i64 0)), .d (.v (.int .i64 0)), .d (.v (.int .i64 0)), .d (.v (.int .i64 0)), .d (.v (.int .i64 0)), .d (.v (.int .u64 0))] [(0, 8, .t 11)], none, 0⟩,
   ⟨none, .st 8 (.t 2) (.t 12), none, 0⟩,
   ⟨some 3, .mv (.c (.d (.v (.int .i64 0)))), none, 0⟩])
 (.ret)))⟩
theorem c63 : coF Try.prog Try.f63 = some C63 := by kernel_rfl
def A63 : Ann := { keep := [0, 1, 2, 3, 4, 8], live := [] }
def E63 {Ω : Type} : Env Ω := econs 106 S106 (enil)
theorem e63 : GoodE Try.prog E63 := GoodE.cons g106 (GoodE.nil)
def S63 {Ω : Type} : Spec Ω := inl E63 A63 C63 false
theorem g63 : Good1 Try.prog 63 S63 := Good1.inl e63 mix Try.func63 (by kernel_rfl) c63 A63 false
/-- coatcheck/pack.Head -/
def C109 : CF := ⟨2, [(4, none)],
 .seq (.reg false [⟨some 4, .mv (.c (.d (.v (.int .u64 0)))), none, 0⟩])
 (.seq (.reg false [⟨some 5, .mv (.t 1), none, 0⟩,
   ⟨some 6, .bin .shl (.t 5) (.c (.d (.v (.int .u64 32)))), none, 0⟩,
   ⟨some 7, .mv (.t 0), none, 0⟩,
   ⟨some 8, .bin .add (.t 7) (.c (.d (.v (.int .i64 1)))), none, 0⟩,
   ⟨some 9, .conv .u32 (.t 8), none, 0⟩,
   ⟨some 10, .conv .u64 (.t 9), none, 0⟩,
   ⟨some 11, .bin .or (.t 6) (.t 10), none, 0⟩,
   ⟨some 4, .mv (.t 11), none, 0⟩])
 (.ret))⟩
theorem c109 : coF Try.prog Try.f109 = some C109 := by kernel_rfl
def A109 : Ann := { keep := [0, 1, 4], live := [] }
def E109 {Ω : Type} : Env Ω := enil
theorem e109 : GoodE Try.prog E109 := GoodE.nil
def S109 {Ω : Type} : Spec Ω := inl E109 A109 C109 false
theorem g109 : Good1 Try.prog 109 S109 := Good1.inl e109 mix Try.func109 (by kernel_rfl) c109 A109 false
/-- coatcheck/pack.Entry -/
def C110 : CF := ⟨3, [(6, none)],
 .seq (.reg false [⟨some 6, .mv (.c (.d (.v (.int .u64 0)))), none, 0⟩])
 (.seq (.reg false [⟨some 7, .mv (.t 0), none, 0⟩,
   ⟨some 8, .bin .shl (.t 7) (.c (.d (.v (.int .u64 20)))), none, 0⟩,
   ⟨some 9, .mv (.t 1), none, 0⟩,
   ⟨some 10, .bin .add (.t 9) (.c (.d (.v (.int .i64 1)))), none, 0⟩,
   ⟨some 11, .conv .u16 (.t 10), none, 0⟩,
   ⟨some 12, .conv .u64 (.t 11), none, 0⟩,
   ⟨some 13, .bin .shl (.t 12) (.c (.d (.v (.int .u64 4)))), none, 0⟩,
   ⟨some 14, .bin .or (.t 8) (.t 13), none, 0⟩,
   ⟨some 15, .mv (.t 2), none, 0⟩,
   ⟨some 16, .conv .u8 (.t 15), none, 0⟩,
   ⟨some 17, .bin .shl (.t 16) (.c (.d (.v (.int .u64 4)))), none, 0⟩,
   ⟨some 18, .bin .shr (.t 17) (.c (.d (.v (.int .u64 4)))), none, 0⟩,
   ⟨some 19, .conv .u64 (.t 18), none, 0⟩,
   ⟨some 20, .bin .or (.t 14) (.t 19), none, 0⟩,
   ⟨some 6, .mv (.t 20), none, 0⟩])
 (.ret))⟩
theorem c110 : coF Try.prog Try.f110 = some C110 := by kernel_rfl
def A110 : Ann := { keep := [0, 1, 2, 6], live := [] }
def E110 {Ω : Type} : Env Ω := enil
theorem e110 : GoodE Try.prog E110 := GoodE.nil
def S110 {Ω : Type} : Spec Ω := inl E110 A110 C110 false
theorem g110 : Good1 Try.prog 110 S110 := Good1.inl e110 mix Try.func110 (by kernel_rfl) c110 A110 false
/-- (coatcheck/plan.Plan).at -/
def C122 : CF := ⟨5, [(10, none)],
 .seq (.reg false [⟨some 5, .box 49 8 (.t 0), none, 0⟩,
   ⟨some 10, .mv (.c (.d (.v (.int .i64 0)))), none, 0⟩])
 (.seq (.seq (.reg false [⟨some 11, .mv (.t 2), none, 0⟩,
   ⟨some 12, .bin .lss (.t 11) (.c (.d (.v (.int .i64 0)))), none, 0⟩,
   ⟨some 13, .mv (.t 12), none, 0⟩,
   ⟨some 14, .mv (.t 2), some (13, false), 0⟩,
   ⟨some 15, .mv (.t 3), some (13, false), 0⟩,
   ⟨some 16, .bin .geq (.t 14) (.t 15), some (13, false), 0⟩,
   ⟨some 17, .pick (.t 13) (.c (.d (.v (.bool true)))) (.t 16), none, 0⟩,
   ⟨some 18, .mv (.t 17), none, 0⟩,
   ⟨some 19, .fa 0 (.t 5), some (18, false), 0⟩,
   ⟨some 20, .ld 8 true (.t 19), some (18, false), 0⟩,
   ⟨some 21, .call (.c (.fn (.func 106) [] [])) [.t 20], some (18, false), 0⟩,
   ⟨some 22, .eq .int true (.t 21) (.c (.d (.v (.int .i64 0)))), some (18, false), 0⟩,
   ⟨some 23, .pick (.t 18) (.c (.d (.v (.bool true)))) (.t 22), none, 0⟩])
 (.cond 23 (.seq (.reg false [⟨some 10, .mv (.c (.d (.v (.int .i64 (-1))))), none, 0⟩])
   (.ret))
   (.skip)))
 (.seq (.reg false [⟨some 24, .mv (.t 1), none, 0⟩,
   ⟨some 25, .mv (.t 2), none, 0⟩,
   ⟨some 26, .mv (.t 4), none, 0⟩,
   ⟨some 27, .bin .mul (.t 25) (.t 26), none, 0⟩,
   ⟨some 28, .bin .add (.t 24) (.t 27), none, 0⟩,
   ⟨some 10, .mv (.t 28), none, 0⟩])
 (.ret)))⟩
theorem c122 : coF Try.prog Try.f122 = some C122 := by kernel_rfl
def A122 : Ann := { keep := [0, 1, 2, 3, 4, 5, 10, 23], live := [] }
def E122 {Ω : Type} : Env Ω := econs 106 S106 (enil)
theorem e122 : GoodE Try.prog E122 := GoodE.cons g106 (GoodE.nil)
def S122 {Ω : Type} : Spec Ω := inl E122 A122 C122 false
theorem g122 : Good1 Try.prog 122 S122 := Good1.inl e122 mix Try.func122 (by kernel_rfl) c122 A122 false
/-- (coatcheck/plan.Plan).Entry -/
def C111 : CF := ⟨2, [(4, none)],
 .seq (.reg false [⟨some 2, .box 49 8 (.t 0), none, 0⟩,
   ⟨some 4, .mv (.c (.d (.v (.int .i64 0)))), none, 0⟩])
 (.seq (.reg true [⟨some 5, .ld 8 true (.t 2), none, 0⟩,
   ⟨some 6, .ld 8 true (.t 2), none, 0⟩,
   ⟨some 7, .call (.c (.fn (.func 127) [] [])) [.t 6], none, 2⟩,
   ⟨some 8, .mv (.t 1), none, 0⟩,
   ⟨some 9, .fa 0 (.t 2), none, 0⟩,
   ⟨some 10, .fa 4 (.t 9), none, 16⟩,
   ⟨some 11, .ld 1 false (.t 10), none, 48⟩,
   ⟨some 12, .call (.c (.fn (.func 122) [] [])) [.t 5, .t 7, .t 8, .t 11, .c (.d (.v (.int .i64 2)))], none, 127⟩,
   ⟨some 4, .mv (.t 12), none, 255⟩])
 (.ret))⟩
theorem c111 : coF Try.prog Try.f111 = some C111 := by kernel_rfl
def A111 : Ann := { keep := [0, 1, 2, 4], live := [] }
def E111 {Ω : Type} : Env Ω := econs 122 S122 (econs 127 S127 (enil))
theorem e111 : GoodE Try.prog E111 := GoodE.cons g122 (GoodE.cons g127 (GoodE.nil))
def S111 {Ω : Type} : Spec Ω := inl E111 A111 C111 false
theorem g111 : Good1 Try.prog 111 S111 := Good1.inl e111 mix Try.func111 (by kernel_rfl) c111 A111 false
/-- (coatcheck/plan.Plan).EntryLink -/
def C112 : CF := ⟨2, [(4, none)],
 .seq (.reg false [⟨some 2, .box 49 8 (.t 0), none, 0⟩,
   ⟨some 4, .mv (.c (.d (.v (.int .i64 0)))), none, 0⟩])
 (.seq (.reg true [⟨some 5, .ld 8 true (.t 2), none, 0⟩,
   ⟨some 6, .ld 8 true (.t 2), none, 0⟩,
   ⟨some 7, .call (.c (.fn (.func 127) [] [])) [.t 6], none, 2⟩,
   ⟨some 8, .bin .add (.t 7) (.c (.d (.v (.int .i64 1)))), none, 6⟩,
   ⟨some 9, .mv (.t 1), none, 0⟩,
   ⟨some 10, .fa 0 (.t 2), none, 0⟩,
   ⟨some 11, .fa 4 (.t 10), none, 32⟩,
   ⟨some 12, .ld 1 false (.t 11), none, 96⟩,
   ⟨some 13, .call (.c (.fn (.func 122) [] [])) [.t 5, .t 8, .t 9, .t 12, .c (.d (.v (.int .i64 2)))], none, 255⟩,
   ⟨some 4, .mv (.t 13), none, 511⟩])
 (.ret))⟩
theorem c112 : coF Try.prog Try.f112 = some C112 := by kernel_rfl
def A112 : Ann := { keep := [0, 1, 2, 4], live := [] }
def E112 {Ω : Type} : Env Ω := econs 122 S122 (econs 127 S127 (enil))
theorem e112 : GoodE Try.prog E112 := GoodE.cons g122 (GoodE.cons g127 (GoodE.nil))
def S112 {Ω : Type} : Spec Ω := inl E112 A112 C112 false
theorem g112 : Good1 Try.prog 112 S112 := Good1.inl e112 mix Try.func112 (by kernel_rfl) c112 A112 false
def K68_1 : CC := .seq (.reg false [⟨some 47, .mv (.t 5), none, 0⟩,
   ⟨some 2, .mv (.t 47), none, 0⟩])
 (.ret)
def K68_2 : CC := .seq (.cond 25 (.skip)
   (.exit 0))
 (.seq (.block 1 (.seq (.reg false [⟨some 26, .mv (.t 24), none, 0⟩,
     ⟨some 6, .mv (.t 26), none, 0⟩])
   (.seq (.reg false [⟨some 27, .mv (.t 5), none, 0⟩,
     ⟨some 28, .ld 8 true (.t 3), none, 0⟩,
     ⟨some 29, .mv (.t 6), none, 0⟩,
     ⟨some 30, .call (.c (.fn (.func 111) [] [])) [.t 28, .t 29], none, 0⟩,
     ⟨some 31, .call (.c (.fn (.func 110) [] [])) [.c (.d (.v (.int .u64 1))), .c (.d (.v (.int .i64 (-1)))), .c (.d (.v (.int .i64 0)))], none, 0⟩,
     ⟨some 32, .ixs 1 (.t 27) (.t 30), none, 0⟩,
     ⟨none, .st 1 (.t 32) (.t 31), none, 0⟩])
   (.seq (.reg false [⟨some 33, .mv (.t 6), none, 0⟩,
     ⟨some 34, .bin .add (.t 33) (.c (.d (.v (.int .i64 1)))), none, 0⟩,
     ⟨some 35, .fa 4 (.t 1), none, 0⟩,
     ⟨some 36, .ld 1 false (.t 35), none, 0⟩,
     ⟨some 37, .bin .lss (.t 34) (.t 36), none, 0⟩])
   (.cond 37 (.reg false [⟨some 38, .mv (.t 5), none, 0⟩,
       ⟨some 39, .ld 8 true (.t 3), none, 0⟩,
       ⟨some 40, .mv (.t 6), none, 0⟩,
       ⟨some 41, .call (.c (.fn (.func 112) [] [])) [.t 39, .t 40], none, 0⟩,
       ⟨some 42, .mv (.t 6), none, 0⟩,
       ⟨some 43, .bin .add (.t 42) (.c (.d (.v (.int .i64 2)))), none, 0⟩,
       ⟨some 44, .conv .u64 (.t 43), none, 0⟩,
       ⟨some 45, .ixs 1 (.t 38) (.t 41), none, 0⟩,
       ⟨none, .st 1 (.t 45) (.t 44), none, 0⟩])
     (.skip))))))
 (.reg false [⟨some 46, .bin .add (.t 24) (.c (.d (.v (.int .i64 1)))), none, 0⟩,
   ⟨some 24, .mv (.t 46), none, 0⟩]))
def K68_3 : CC := .reg false [⟨some 25, .bin .lss (.t 24) (.t 23), none, 0⟩]
def L68_4 : CC := .seq K68_3 K68_2
def K68_5 : CC := .reg false [⟨some 22, .fa 4 (.t 1), none, 0⟩,
   ⟨some 23, .ld 1 false (.t 22), none, 0⟩,
   ⟨some 24, .mv (.c (.d (.v (.int .i64 0)))), none, 0⟩]
def K68_6 : CC := .reg false [⟨some 17, .mv (.t 5), none, 0⟩,
   ⟨some 18, .mv (.t 5), none, 0⟩,
   ⟨some 19, .call (.c (.fn (.func 109) [] [])) [.c (.d (.v (.int .i64 0))), .c (.d (.v (.int .u64 0)))], none, 0⟩,
   ⟨some 20, .ixs 1 (.t 17) (.c (.d (.v (.int .i64 0)))), none, 0⟩,
   ⟨none, .st 1 (.t 20) (.c (.d (.v (.int .u64 2)))), none, 0⟩,
   ⟨some 21, .ixs 1 (.t 18) (.c (.d (.v (.int .i64 2)))), none, 0⟩,
   ⟨none, .st 1 (.t 21) (.t 19), none, 0⟩]
def K68_7 : CC := .reg false [⟨some 14, .ld 8 true (.t 3), none, 0⟩,
   ⟨some 15, .call (.c (.fn (.func 64) [] [])) [.t 14], none, 0⟩,
   ⟨some 16, .mks 22 1 8 (some .u64) [.d (.v (.int .u64 0))] (.t 15), none, 0⟩,
   ⟨some 5, .mv (.t 16), none, 0⟩]
def K68_8 : CC := .seq (.reg false [⟨some 12, .mv (.t 4), none, 0⟩,
   ⟨some 13, .eq .int true (.t 12) (.c (.d (.v (.int .i64 0)))), none, 0⟩])
 (.cond 13 (.seq (.reg false [⟨some 2, .mv (.c (.d (.v (.slice none 0 0)))), none, 0⟩])
   (.ret))
   (.skip))
def K68_9 : CC := .reg false [⟨some 8, .ld 8 true (.t 1), none, 0⟩,
   ⟨some 9, .call (.c (.fn (.func 63) [] [])) [.t 8], none, 0⟩,
   ⟨some 7, .mv (.t 9), none, 0⟩,
   ⟨some 10, .ext 0 (.t 7), none, 0⟩,
   ⟨some 11, .ext 1 (.t 7), none, 0⟩,
   ⟨some 3, .newc 49 [.d (.v (.int .i64 0)), .d (.v (.int .i64 0)), .d (.v (.int .i64 0)), .d (.v (.int .i64 0)), .d (.v (.int .i64 0)), .d (.v (.int .i64 0)), .d (.v (.int .i64 0)), .d (.v (.int .u64 0))], none, 0⟩,
   ⟨none, .st 8 (.t 3) (.t 10), none, 0⟩,
   ⟨some 4, .mv (.t 11), none, 0⟩]
def K68_10 : CC := .reg false [⟨some 1, .box 24 8 (.t 0), none, 0⟩,
   ⟨some 2, .mv (.c (.d (.v (.slice none 0 0)))), none, 0⟩]
/-- coatcheck/plan.First -/
def C68 : CF := ⟨1, [(2, none)],
 .seq K68_10 (.seq K68_9 (.seq K68_8 (.seq K68_7 (.seq K68_6 (.seq (.seq K68_5 (.block 0 (.loop L68_4))) K68_1)))))⟩
theorem c68 : coF Try.prog Try.f68 = some C68 := by kernel_rfl
def A68 : Ann := { keep := [0, 1, 2, 3, 4, 5, 6, 13, 23, 24, 25, 37], live := [(0, [1, 3, 5, 23, 24])] }
def E68 {Ω : Type} : Env Ω := econs 63 S63 (econs 64 S64 (econs 109 S109 (econs 110 S110 (econs 111 S111 (econs 112 S112 (enil))))))
theorem e68 : GoodE Try.prog E68 := GoodE.cons g63 (GoodE.cons g64 (GoodE.cons g109 (GoodE.cons g110 (GoodE.cons g111 (GoodE.cons g112 (GoodE.nil))))))
def Z68_4 {Ω : Type} (it : Itr Ω) (K : SV → SH → Option Ω) : SE → SS → Option Ω := kblk 0 (kseq it E68 A68 K68_1 0 (kfn C68 K))
end Go.Sx.Pr
