/- Pieces of the code of functions, compiled for the symbolic interpreter, each checked against the program; no conditions. -/
import Derived.Test.YtpnnnklahanecaaP4
import Derived.Test.YtpnnnklahanecaaRows
import Derived.KernelRfl
namespace Go.Sx.Pr
open Go Go.Sx Go.Proofs
set_option maxRecDepth 100000
/-- coatcheck/coatcheckref02.Copy -/
def C17 : CF := ⟨1, [(2, none)],
 .seq (.reg false [⟨some 2, .mv (.c (.d (.v (.slice none 0 0)))), none, 0⟩])
 (.seq (.reg false [⟨some 3, .bsl 22 1 0 [.d (.v (.int .u64 0))] [], none, 0⟩,
   ⟨some 4, .mv (.t 0), none, 0⟩,
   ⟨some 5, .app 22 1 8 (some .u64) (.t 3) (.t 4), none, 0⟩,
   ⟨some 2, .mv (.t 5), none, 0⟩])
 (.ret))⟩
theorem c17 : coF Try.prog Try.f17 = some C17 := by kernel_rfl
def A17 : Ann := { keep := [0, 2], live := [] }
def E17 {Ω : Type} : Env Ω := enil
theorem e17 : GoodE Try.prog E17 := GoodE.nil
def S17 {Ω : Type} : Spec Ω := inl E17 A17 C17 false
theorem g17 : Good1 Try.prog 17 S17 := Good1.inl e17 mix Try.func17 (by kernel_rfl) c17 A17 false
/-- (coatcheck/plan.Plan).slabs -/
def C125 : CF := ⟨1, [(2, none)],
 .seq (.reg false [⟨some 1, .box 49 8 (.t 0), none, 0⟩,
   ⟨some 2, .mv (.c (.d (.v (.int .i64 0)))), none, 0⟩])
 (.seq (.reg false [⟨some 3, .fa 0 (.t 1), none, 0⟩,
   ⟨some 4, .fa 0 (.t 3), none, 0⟩,
   ⟨some 5, .ld 1 false (.t 4), none, 0⟩,
   ⟨some 6, .bin .add (.c (.d (.v (.int .i64 3)))) (.t 5), none, 0⟩,
   ⟨some 2, .mv (.t 6), none, 0⟩])
 (.ret))⟩
theorem c125 : coF Try.prog Try.f125 = some C125 := by kernel_rfl
def A125 : Ann := { keep := [0, 1, 2], live := [] }
def E125 {Ω : Type} : Env Ω := enil
theorem e125 : GoodE Try.prog E125 := GoodE.nil
def S125 {Ω : Type} : Spec Ω := inl E125 A125 C125 false
theorem g125 : Good1 Try.prog 125 S125 := Good1.inl e125 mix Try.func125 (by kernel_rfl) c125 A125 false
/-- (coatcheck/plan.Plan).entries -/
def C127 : CF := ⟨1, [(2, none)],
 .seq (.reg false [⟨some 1, .box 49 8 (.t 0), none, 0⟩,
   ⟨some 2, .mv (.c (.d (.v (.int .i64 0)))), none, 0⟩])
 (.seq (.reg true [⟨some 3, .ld 8 true (.t 1), none, 0⟩,
   ⟨some 4, .call (.c (.fn (.func 125) [] [])) [.t 3], none, 1⟩,
   ⟨some 5, .fa 0 (.t 1), none, 0⟩,
   ⟨some 6, .fa 1 (.t 5), none, 4⟩,
   ⟨some 7, .ld 1 false (.t 6), none, 12⟩,
   ⟨some 8, .bin .add (.t 4) (.t 7), none, 31⟩,
   ⟨some 2, .mv (.t 8), none, 63⟩])
 (.ret))⟩
theorem c127 : coF Try.prog Try.f127 = some C127 := by kernel_rfl
def A127 : Ann := { keep := [0, 1, 2], live := [] }
def E127 {Ω : Type} : Env Ω := econs 125 S125 (enil)
theorem e127 : GoodE Try.prog E127 := GoodE.cons g125 (GoodE.nil)
def S127 {Ω : Type} : Spec Ω := inl E127 A127 C127 false
theorem g127 : Good1 Try.prog 127 S127 := Good1.inl e127 mix Try.func127 (by kernel_rfl) c127 A127 false
/-- (coatcheck/plan.Plan).blocks -/
def C107 : CF := ⟨1, [(2, none)],
 .seq (.reg false [⟨some 1, .box 49 8 (.t 0), none, 0⟩,
   ⟨some 2, .mv (.c (.d (.v (.int .i64 0)))), none, 0⟩])
 (.seq (.reg true [⟨some 3, .ld 8 true (.t 1), none, 0⟩,
   ⟨some 4, .call (.c (.fn (.func 127) [] [])) [.t 3], none, 1⟩,
   ⟨some 5, .fa 0 (.t 1), none, 0⟩,
   ⟨some 6, .fa 4 (.t 5), none, 4⟩,
   ⟨some 7, .ld 1 false (.t 6), none, 12⟩,
   ⟨some 8, .bin .mul (.c (.d (.v (.int .i64 2)))) (.t 7), none, 28⟩,
   ⟨some 9, .bin .add (.t 4) (.t 8), none, 63⟩,
   ⟨some 2, .mv (.t 9), none, 127⟩])
 (.ret))⟩
theorem c107 : coF Try.prog Try.f107 = some C107 := by kernel_rfl
def A107 : Ann := { keep := [0, 1, 2], live := [] }
def E107 {Ω : Type} : Env Ω := econs 127 S127 (enil)
theorem e107 : GoodE Try.prog E107 := GoodE.cons g127 (GoodE.nil)
def S107 {Ω : Type} : Spec Ω := inl E107 A107 C107 false
theorem g107 : Good1 Try.prog 107 S107 := Good1.inl e107 mix Try.func107 (by kernel_rfl) c107 A107 false
/-- (coatcheck/plan.Plan).Total -/
def C108 : CF := ⟨1, [(2, none)],
 .seq (.reg false [⟨some 1, .box 49 8 (.t 0), none, 0⟩,
   ⟨some 2, .mv (.c (.d (.v (.int .i64 0)))), none, 0⟩])
 (.seq (.seq (.reg false [⟨some 3, .fa 0 (.t 1), none, 0⟩,
   ⟨some 4, .ld 8 true (.t 3), none, 0⟩,
   ⟨some 5, .call (.c (.fn (.func 106) [] [])) [.t 4], none, 0⟩,
   ⟨some 6, .eq .int true (.t 5) (.c (.d (.v (.int .i64 0)))), none, 0⟩])
 (.cond 6 (.seq (.reg false [⟨some 2, .mv (.c (.d (.v (.int .i64 0)))), none, 0⟩])
   (.ret))
   (.skip)))
 (.seq (.reg false [⟨some 7, .fa 0 (.t 1), none, 0⟩,
   ⟨some 8, .fa 1 (.t 7), none, 0⟩,
   ⟨some 9, .ld 1 false (.t 8), none, 0⟩,
   ⟨some 10, .fa 0 (.t 1), none, 0⟩,
   ⟨some 11, .fa 2 (.t 10), none, 0⟩,
   ⟨some 12, .ld 1 false (.t 11), none, 0⟩,
   ⟨some 13, .bin .mul (.t 9) (.t 12), none, 0⟩,
   ⟨some 2, .mv (.t 13), none, 0⟩])
 (.ret)))⟩
theorem c108 : coF Try.prog Try.f108 = some C108 := by kernel_rfl
def A108 : Ann := { keep := [0, 1, 2, 6], live := [] }
def E108 {Ω : Type} : Env Ω := econs 106 S106 (enil)
theorem e108 : GoodE Try.prog E108 := GoodE.cons g106 (GoodE.nil)
def S108 {Ω : Type} : Spec Ω := inl E108 A108 C108 false
theorem g108 : Good1 Try.prog 108 S108 := Good1.inl e108 mix Try.func108 (by kernel_rfl) c108 A108 false
/-- (coatcheck/plan.Plan).Size -/
def C64 : CF := ⟨1, [(2, none)],
 .seq (.reg false [⟨some 1, .box 49 8 (.t 0), none, 0⟩,
   ⟨some 2, .mv (.c (.d (.v (.int .i64 0)))), none, 0⟩])
 (.seq (.seq (.reg false [⟨some 3, .fa 0 (.t 1), none, 0⟩,
   ⟨some 4, .ld 8 true (.t 3), none, 0⟩,
   ⟨some 5, .call (.c (.fn (.func 106) [] [])) [.t 4], none, 0⟩,
   ⟨some 6, .eq .int true (.t 5) (.c (.d (.v (.int .i64 0)))), none, 0⟩])
 (.cond 6 (.seq (.reg false [⟨some 2, .mv (.c (.d (.v (.int .i64 0)))), none, 0⟩])
   (.ret))
   (.skip)))
 (.seq (.reg true [⟨some 7, .ld 8 true (.t 1), none, 0⟩,
   ⟨some 8, .call (.c (.fn (.func 107) [] [])) [.t 7], none, 1⟩,
   ⟨some 9, .ld 8 true (.t 1), none, 0⟩,
   ⟨some 10, .call (.c (.fn (.func 108) [] [])) [.t 9], none, 7⟩,
   ⟨some 11, .fa 0 (.t 1), none, 0⟩,
   ⟨some 12, .fa 3 (.t 11), none, 16⟩,
   ⟨some 13, .ld 1 false (.t 12), none, 48⟩,
   ⟨some 14, .bin .add (.c (.d (.v (.int .i64 1)))) (.t 13), none, 112⟩,
   ⟨some 15, .bin .mul (.t 10) (.t 14), none, 255⟩,
   ⟨some 16, .bin .add (.t 8) (.t 15), none, 511⟩,
   ⟨some 2, .mv (.t 16), none, 1023⟩])
 (.ret)))⟩
theorem c64 : coF Try.prog Try.f64 = some C64 := by kernel_rfl
def A64 : Ann := { keep := [0, 1, 2, 6], live := [] }
def E64 {Ω : Type} : Env Ω := econs 106 S106 (econs 107 S107 (econs 108 S108 (enil)))
theorem e64 : GoodE Try.prog E64 := GoodE.cons g106 (GoodE.cons g107 (GoodE.cons g108 (GoodE.nil)))
end Go.Sx.Pr
