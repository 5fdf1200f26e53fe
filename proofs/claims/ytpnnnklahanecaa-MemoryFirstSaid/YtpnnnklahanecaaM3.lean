/- Pieces of the code of functions, compiled for the symbolic interpreter, each checked against the program; no conditions. -/
import Derived.Test.YtpnnnklahanecaaM2b
import Derived.Test.YtpnnnklahanecaaRows
import Derived.KernelRfl
namespace Go.Sx.Pr
open Go Go.Sx Go.Proofs
set_option maxRecDepth 100000
def K83_1 : CC := .seq (.reg false [⟨some 12, .mv (.t 3), none, 0⟩,
   ⟨some 2, .mv (.t 12), none, 0⟩])
 (.ret)
def L83_2 : CC := .seq (.seq (.reg false [⟨some 5, .mv (.t 4), none, 0⟩,
   ⟨some 6, .mv (.t 0), none, 0⟩,
   ⟨some 7, .bin .lss (.t 5) (.t 6), none, 0⟩])
 (.cond 7 (.skip)
   (.exit 0)))
 (.seq (.block 1 (.reg false [⟨some 10, .mv (.t 3), none, 0⟩,
     ⟨some 11, .bin .mul (.t 10) (.c (.d (.v (.int .u64 2)))), none, 0⟩,
     ⟨some 3, .mv (.t 11), none, 0⟩]))
 (.reg false [⟨some 8, .mv (.t 4), none, 0⟩,
   ⟨some 9, .bin .add (.t 8) (.c (.d (.v (.int .i64 1)))), none, 0⟩,
   ⟨some 4, .mv (.t 9), none, 0⟩]))
def K83_3 : CC := .reg false [⟨some 4, .mv (.c (.d (.v (.int .i64 0)))), none, 0⟩]
def K83_4 : CC := .reg false [⟨some 3, .mv (.c (.d (.v (.int .u64 1)))), none, 0⟩]
def K83_5 : CC := .reg false [⟨some 2, .mv (.c (.d (.v (.int .u64 0)))), none, 0⟩]
/-- coatcheck/coatcheckref01.power -/
def C83 : CF := ⟨1, [(2, none)],
 .seq K83_5 (.seq K83_4 (.seq (.seq K83_3 (.block 0 (.loop L83_2))) K83_1))⟩
theorem c83 : coF Try.prog Try.f83 = some C83 := by kernel_rfl
def A83 : Ann := { keep := [0, 2, 3, 4, 7], live := [(0, [0, 3, 4])] }
def E83 {Ω : Type} : Env Ω := enil
theorem e83 : GoodE Try.prog E83 := GoodE.nil
def Z83_2 {Ω : Type} (it : Itr Ω) (K : SV → SH → Option Ω) : SE → SS → Option Ω := kblk 0 (kseq it E83 A83 K83_1 0 (kfn C83 K))
def S83 {Ω : Type} : Spec Ω := inl E83 A83 C83 false
theorem g83 : Good1 Try.prog 83 S83 := Good1.inl e83 mix Try.func83 (by kernel_rfl) c83 A83 false
def K80_1 : CC := .seq (.seq (.reg false [⟨some 14, .mv (.t 1), none, 0⟩,
   ⟨some 15, .bin .gtr (.t 14) (.c (.d (.v (.int .i64 63)))), none, 0⟩])
 (.cond 15 (.seq (.reg false [⟨some 16, .mv (.t 0), none, 0⟩,
     ⟨some 4, .mv (.t 16), none, 0⟩])
   (.ret))
   (.skip)))
 (.seq (.reg false [⟨some 17, .mv (.t 0), none, 0⟩,
   ⟨some 18, .mv (.t 5), none, 0⟩,
   ⟨some 19, .bin .rem (.t 17) (.t 18), none, 0⟩,
   ⟨some 4, .mv (.t 19), none, 0⟩])
 (.ret))
def L80_2 : CC := .seq (.seq (.reg false [⟨some 7, .mv (.t 6), none, 0⟩,
   ⟨some 8, .mv (.t 1), none, 0⟩,
   ⟨some 9, .bin .lss (.t 7) (.t 8), none, 0⟩])
 (.cond 9 (.skip)
   (.exit 0)))
 (.seq (.block 1 (.reg false [⟨some 12, .mv (.t 5), none, 0⟩,
     ⟨some 13, .bin .mul (.t 12) (.c (.d (.v (.int .u64 2)))), none, 0⟩,
     ⟨some 5, .mv (.t 13), none, 0⟩]))
 (.reg false [⟨some 10, .mv (.t 6), none, 0⟩,
   ⟨some 11, .bin .add (.t 10) (.c (.d (.v (.int .i64 1)))), none, 0⟩,
   ⟨some 6, .mv (.t 11), none, 0⟩]))
def K80_3 : CC := .reg false [⟨some 6, .mv (.c (.d (.v (.int .i64 0)))), none, 0⟩]
def K80_4 : CC := .reg false [⟨some 5, .mv (.c (.d (.v (.int .u64 1)))), none, 0⟩]
def K80_5 : CC := .reg false [⟨some 4, .mv (.c (.d (.v (.int .u64 0)))), none, 0⟩]
/-- coatcheck/coatcheckref01.Low -/
def C80 : CF := ⟨2, [(4, none)],
 .seq K80_5 (.seq K80_4 (.seq (.seq K80_3 (.block 0 (.loop L80_2))) K80_1))⟩
theorem c80 : coF Try.prog Try.f80 = some C80 := by kernel_rfl
def A80 : Ann := { keep := [0, 1, 4, 5, 6, 9, 15], live := [(0, [0, 1, 5, 6])] }
def E80 {Ω : Type} : Env Ω := enil
theorem e80 : GoodE Try.prog E80 := GoodE.nil
def Z80_2 {Ω : Type} (it : Itr Ω) (K : SV → SH → Option Ω) : SE → SS → Option Ω := kblk 0 (kseq it E80 A80 K80_1 0 (kfn C80 K))
def S80 {Ω : Type} : Spec Ω := inl E80 A80 C80 false
theorem g80 : Good1 Try.prog 80 S80 := Good1.inl e80 mix Try.func80 (by kernel_rfl) c80 A80 false
/-- coatcheck/coatcheckref01.Entry -/
def C69 : CF := ⟨3, [(6, none)],
 .seq (.reg false [⟨some 6, .mv (.c (.d (.v (.int .u64 0)))), none, 0⟩])
 (.seq (.reg false [⟨some 7, .mv (.t 0), none, 0⟩,
   ⟨some 8, .call (.c (.fn (.func 80) [] [])) [.t 7, .c (.d (.v (.int .i64 44)))], none, 0⟩,
   ⟨some 9, .call (.c (.fn (.func 83) [] [])) [.c (.d (.v (.int .i64 20)))], none, 0⟩,
   ⟨some 10, .bin .mul (.t 8) (.t 9), none, 0⟩,
   ⟨some 11, .mv (.t 1), none, 0⟩,
   ⟨some 12, .conv .u64 (.t 11), none, 0⟩,
   ⟨some 13, .bin .add (.t 12) (.c (.d (.v (.int .u64 1)))), none, 0⟩,
   ⟨some 14, .call (.c (.fn (.func 80) [] [])) [.t 13, .c (.d (.v (.int .i64 16)))], none, 0⟩,
   ⟨some 15, .bin .mul (.t 14) (.c (.d (.v (.int .u64 16)))), none, 0⟩,
   ⟨some 16, .bin .add (.t 10) (.t 15), none, 0⟩,
   ⟨some 17, .mv (.t 2), none, 0⟩,
   ⟨some 18, .conv .u64 (.t 17), none, 0⟩,
   ⟨some 19, .call (.c (.fn (.func 80) [] [])) [.t 18, .c (.d (.v (.int .i64 4)))], none, 0⟩,
   ⟨some 20, .bin .add (.t 16) (.t 19), none, 0⟩,
   ⟨some 6, .mv (.t 20), none, 0⟩])
 (.ret))⟩
theorem c69 : coF Try.prog Try.f69 = some C69 := by kernel_rfl
def A69 : Ann := { keep := [0, 1, 2, 6], live := [] }
def E69 {Ω : Type} : Env Ω := econs 80 S80 (econs 83 S83 (enil))
theorem e69 : GoodE Try.prog E69 := GoodE.cons g80 (GoodE.cons g83 (GoodE.nil))
end Go.Sx.Pr
