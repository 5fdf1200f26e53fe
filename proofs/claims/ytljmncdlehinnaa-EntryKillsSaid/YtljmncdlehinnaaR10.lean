/- Packing of words: what both layers' functions answer, in numbers. -/
import Derived.Test.YtljmncdlehinnaaR2
import Derived.Test.YtljmncdlehinnaaR2
import Derived.Test.YtljmncdlehinnaaRows
import Derived.KernelRfl
set_option linter.all false
set_option linter.unusedVariables false
set_option linter.unusedSimpArgs false
set_option linter.unnecessarySimpa false
namespace Go.Sx.Pr
open Go Go.Sx Go.Proofs
set_option maxRecDepth 100000

def uB (x : Int) : Bool := decide (0 ≤ x) && decide (x ≤ 18446744073709551615)
theorem uB_iff {x : Int} : uB x = true ↔ 0 ≤ x ∧ x ≤ 18446744073709551615 := by simp [uB]
theorem lenAs_cons {t : AT} {ts : List AT} {L : List (List Int)} (h : lenAs (t :: ts) L) : ∃ a r, L = a :: r ∧ lenA t a.length ∧ lenAs ts r := h
theorem lenAs_nil {L : List (List Int)} (h : lenAs [] L) : L = [] := h

theorem shrU {a : Int} (n : Nat) (h : n ≤ 64) : shr .u64 a (n : Int) = a / 2 ^ n := shr_div h
theorem sh32 (w : Int) : shr .u64 w 32 = w / 4294967296 := shrU 32 (by decide)
theorem sh20 (w : Int) : shr .u64 w 20 = w / 1048576 := shrU 20 (by decide)
theorem sh16 (w : Int) : shr .u64 w 16 = w / 65536 := shrU 16 (by decide)
theorem sh4 (w : Int) : shr .u64 w 4 = w / 16 := shrU 4 (by decide)
theorem low4 (w : Int) : shr .u8 (shl .u8 (IntKind.wrap .u8 w) 4) 4 = w % 16 := by
  have h1 : shl .u8 (IntKind.wrap .u8 w) 4 = IntKind.wrap .u8 (IntKind.wrap .u8 w * 16) := shl_mul (k := .u8) (n := 4) (by decide)
  have h2 : ∀ a, shr .u8 a 4 = a / 16 := fun a => shr_div (k := .u8) (n := 4) (by decide)
  rw [h2, h1]
  simp only [IntKind.wrap_u8]
  omega
theorem sl32 (w : Int) : shl .u64 w 32 = w % 4294967296 * 4294967296 := by
  have h1 : shl .u64 w 32 = IntKind.wrap .u64 (w * 4294967296) := shl_mul (k := .u64) (n := 32) (by decide)
  rw [h1, IntKind.wrap_u64]; omega
theorem sl20 (w : Int) : shl .u64 w 20 = w % 17592186044416 * 1048576 := by
  have h1 : shl .u64 w 20 = IntKind.wrap .u64 (w * 1048576) := shl_mul (k := .u64) (n := 20) (by decide)
  rw [h1, IntKind.wrap_u64]; omega
theorem sl16 (w : Int) : shl .u64 w 16 = w % 281474976710656 * 65536 := by
  have h1 : shl .u64 w 16 = IntKind.wrap .u64 (w * 65536) := shl_mul (k := .u64) (n := 16) (by decide)
  rw [h1, IntKind.wrap_u64]; omega
theorem bHead (p v : Int) : bor .u64 (shl .u64 v 32) (IntKind.wrap .u64 (IntKind.wrap .u32 (IntKind.wrap .i64 (p + 1)))) = pHead p v := by
  rw [sl32]
  have e : IntKind.wrap .u64 (IntKind.wrap .u32 (IntKind.wrap .i64 (p + 1))) = (p + 1) % 4294967296 := by simp only [IntKind.wrap_u64, IntKind.wrap_u32, IntKind.wrap_i64]; omega
  rw [e, bor_add (n := 32) (by omega) (by omega) (by omega) (by omega) (by omega) (by omega)]
  rfl
theorem bEntry (g b s : Int) : bor .u64 (bor .u64 (shl .u64 g 20) (shl .u64 (IntKind.wrap .u64 (IntKind.wrap .u16 (IntKind.wrap .i64 (b + 1)))) 4)) (IntKind.wrap .u64 (shr .u8 (shl .u8 (IntKind.wrap .u8 s) 4) 4)) = pEntry g b s := by
  have h4 : shl .u64 (IntKind.wrap .u64 (IntKind.wrap .u16 (IntKind.wrap .i64 (b + 1)))) 4 = (b + 1) % 65536 * 16 := by
    have h1 : ∀ a, shl .u64 a 4 = IntKind.wrap .u64 (a * 16) := fun a => shl_mul (k := .u64) (n := 4) (by decide)
    rw [h1]; simp only [IntKind.wrap_u64, IntKind.wrap_u16, IntKind.wrap_i64]; omega
  rw [sl20, h4, low4]
  have e : IntKind.wrap .u64 (s % 16) = s % 16 := by rw [IntKind.wrap_u64]; omega
  have e2 : bor .u64 (g % 17592186044416 * 1048576) ((b + 1) % 65536 * 16) = g % 17592186044416 * 1048576 + (b + 1) % 65536 * 16 := bor_add (n := 20) (by omega) (by omega) (by omega) (by omega) (by omega) (by omega)
  rw [e, e2, bor_add (n := 4) (by omega) (by omega) (by omega) (by omega) (by omega) (by omega)]
  unfold pEntry; omega
theorem bTicket (e g : Int) : bor .u64 (shl .u64 g 16) (IntKind.wrap .u64 (IntKind.wrap .u16 (IntKind.wrap .i64 (e + 1)))) = pTicket e g := by
  rw [sl16]
  have h : IntKind.wrap .u64 (IntKind.wrap .u16 (IntKind.wrap .i64 (e + 1))) = (e + 1) % 65536 := by simp only [IntKind.wrap_u64, IntKind.wrap_u16, IntKind.wrap_i64]; omega
  rw [h, bor_add (n := 16) (by omega) (by omega) (by omega) (by omega) (by omega) (by omega)]
  rfl
theorem n118 {Ω : Type} (K : SV → SH → Option Ω) (w : Int) :
    sxFn E118 A118 C118 [U w] [] K =
    K (.tup [I (IntKind.wrap .i64 (IntKind.wrap .i64 (IntKind.wrap .u32 w) - 1)), U (shr .u64 w 32)]) [] := by kernel_rfl
theorem n109 {Ω : Type} (K : SV → SH → Option Ω) (p v : Int) :
    sxFn E109 A109 C109 [I p, U v] [] K =
    K (U (bor .u64 (shl .u64 v 32) (IntKind.wrap .u64 (IntKind.wrap .u32 (IntKind.wrap .i64 (p + 1)))))) [] := by kernel_rfl
theorem n110 {Ω : Type} (K : SV → SH → Option Ω) (g b s : Int) :
    sxFn E110 A110 C110 [U g, I b, I s] [] K =
    K (U (bor .u64 (bor .u64 (shl .u64 g 20) (shl .u64 (IntKind.wrap .u64 (IntKind.wrap .u16 (IntKind.wrap .i64 (b + 1)))) 4)) (IntKind.wrap .u64 (shr .u8 (shl .u8 (IntKind.wrap .u8 s) 4) 4)))) [] := by kernel_rfl
theorem v109 {p v : Int} (hv : 0 ≤ v ∧ v ≤ 18446744073709551615) : sxFn E109 A109 C109 [I p, U v] [] KS = some (U (pHead p v), []) := by
  rw [n109]
  rw [bHead]
def FP109 : List (List Int) → Option (Bool × SV × SH)
  | [[p], [v]] => some (uB v, U (pHead p v), [])
  | _ => none
def S109c {Ω : Type} : Spec Ω := conSpec [.i .i64, .i .u64] FP109
theorem g109c : Good1 Try.prog 97 S109c := conGood Try.func97 (by kernel_rfl) c109 e109 mix (A := A109) fun L r hr hl hF => by
  obtain ⟨q0, l0, rfl, z0, hl1⟩ := lenAs_cons hl
  obtain ⟨p, rfl⟩ := one_of' z0
  obtain ⟨q1, l1, rfl, z1, hl2⟩ := lenAs_cons hl1
  obtain ⟨v, rfl⟩ := one_of' z1
  have hz := lenAs_nil hl2
  subst hz
  simp only [FP109, Option.some.injEq, Prod.mk.injEq, Bool.and_eq_true, uB_iff] at hF
  obtain ⟨hu, rfl, rfl⟩ := hF
  exact ⟨trivial, trivial, _, trim_none rfl _, v109 hu⟩
theorem v110 {g b s : Int} (hg : 0 ≤ g ∧ g ≤ 18446744073709551615) : sxFn E110 A110 C110 [U g, I b, I s] [] KS = some (U (pEntry g b s), []) := by
  rw [n110]
  rw [bEntry]
def FP110 : List (List Int) → Option (Bool × SV × SH)
  | [[g], [b], [s]] => some (uB g, U (pEntry g b s), [])
  | _ => none
def S110c {Ω : Type} : Spec Ω := conSpec [.i .u64, .i .i64, .i .i64] FP110
theorem g110c : Good1 Try.prog 74 S110c := conGood Try.func74 (by kernel_rfl) c110 e110 mix (A := A110) fun L r hr hl hF => by
  obtain ⟨q0, l0, rfl, z0, hl1⟩ := lenAs_cons hl
  obtain ⟨g, rfl⟩ := one_of' z0
  obtain ⟨q1, l1, rfl, z1, hl2⟩ := lenAs_cons hl1
  obtain ⟨b, rfl⟩ := one_of' z1
  obtain ⟨q2, l2, rfl, z2, hl3⟩ := lenAs_cons hl2
  obtain ⟨s, rfl⟩ := one_of' z2
  have hz := lenAs_nil hl3
  subst hz
  simp only [FP110, Option.some.injEq, Prod.mk.injEq, Bool.and_eq_true, uB_iff] at hF
  obtain ⟨hu, rfl, rfl⟩ := hF
  exact ⟨trivial, trivial, _, trim_none rfl _, v110 hu⟩
theorem v118 {w : Int} (hw : 0 ≤ w ∧ w ≤ 18446744073709551615) : sxFn E118 A118 C118 [U w] [] KS = some (.tup [I (w % 4294967296 - 1), U (w / 4294967296)], []) := by
  rw [n118]
  rw [sh32]
  rw [show IntKind.wrap .i64 (IntKind.wrap .i64 (IntKind.wrap .u32 w) - 1) = w % 4294967296 - 1 by simp only [IntKind.wrap_u64, IntKind.wrap_i64, IntKind.wrap_u32, IntKind.wrap_u16, pHead, pEntry, pAnn, pSlab, pTicket, cond_true, cond_false]; omega]
def FP118 : List (List Int) → Option (Bool × SV × SH)
  | [[w]] => some (uB w, .tup [I (w % 4294967296 - 1), U (w / 4294967296)], [])
  | _ => none
def S118c {Ω : Type} : Spec Ω := conSpec [.i .u64] FP118
theorem g118c : Good1 Try.prog 115 S118c := conGood Try.func115 (by kernel_rfl) c118 e118 mix (A := A118) fun L r hr hl hF => by
  obtain ⟨q0, l0, rfl, z0, hl1⟩ := lenAs_cons hl
  obtain ⟨w, rfl⟩ := one_of' z0
  have hz := lenAs_nil hl1
  subst hz
  simp only [FP118, Option.some.injEq, Prod.mk.injEq, Bool.and_eq_true, uB_iff] at hF
  obtain ⟨hu, rfl, rfl⟩ := hF
  exact ⟨⟨trivial, trivial, trivial⟩, trivial, _, trim_none rfl _, v118 hu⟩
end Go.Sx.Pr

namespace Go.Sx.Pr
open Go Go.Sx Go.Proofs
set_option maxRecDepth 100000
def K66_1 : CC := .seq (.reg true [⟨some 25, .mv (.t 0), none, 0⟩,
   ⟨some 26, .nilc (.t 25), none, 1⟩,
   ⟨some 27, .fa 13 (.t 26), none, 3⟩,
   ⟨some 28, .ld 1 false (.t 27), none, 7⟩,
   ⟨some 29, .fa 1 (.t 3), none, 0⟩,
   ⟨some 30, .ld 1 false (.t 29), none, 16⟩,
   ⟨some 31, .ixs 1 (.t 28) (.t 30), none, 63⟩,
   ⟨some 5, .mv (.t 31), none, 127⟩])
 (.seq (.reg false [⟨some 32, .mv (.t 0), none, 0⟩,
   ⟨some 33, .ld 5 true (.t 3), none, 0⟩,
   ⟨some 34, .nilc (.t 32), none, 0⟩,
   ⟨some 35, .fa 8 (.t 34), none, 0⟩,
   ⟨none, .st 5 (.t 35) (.t 33), none, 0⟩])
 (.seq (.reg false [⟨some 36, .mv (.t 0), none, 0⟩,
   ⟨some 37, .mv (.t 5), none, 0⟩,
   ⟨some 38, .nilc (.t 37), none, 0⟩,
   ⟨some 39, .ld 1 false (.t 38), none, 0⟩,
   ⟨some 40, .nilc (.t 36), none, 0⟩,
   ⟨some 41, .fa 8 (.t 40), none, 0⟩,
   ⟨some 42, .fa 4 (.t 41), none, 0⟩,
   ⟨none, .st 1 (.t 42) (.t 39), none, 0⟩])
 (.seq (.reg false [⟨some 43, .mv (.t 5), none, 0⟩,
   ⟨some 4, .mv (.t 43), none, 0⟩])
 (.ret))))
def K66_2 : CC := .seq (.reg true [⟨some 12, .fa 1 (.t 3), none, 0⟩,
   ⟨some 13, .ld 1 false (.t 12), none, 1⟩,
   ⟨some 14, .bin .lss (.t 13) (.c (.d (.v (.int .i64 0)))), none, 3⟩,
   ⟨some 15, .mv (.t 14), none, 7⟩,
   ⟨some 16, .fa 1 (.t 3), some (15, false), 15⟩,
   ⟨some 17, .ld 1 false (.t 16), some (15, false), 31⟩,
   ⟨some 18, .mv (.t 0), some (15, false), 15⟩,
   ⟨some 19, .nilc (.t 18), some (15, false), 79⟩,
   ⟨some 20, .fa 13 (.t 19), some (15, false), 207⟩,
   ⟨some 21, .ld 1 false (.t 20), some (15, false), 463⟩,
   ⟨some 22, .len (.t 21), some (15, false), 975⟩,
   ⟨some 23, .bin .geq (.t 17) (.t 22), some (15, false), 2047⟩,
   ⟨some 24, .pick (.t 15) (.c (.d (.v (.bool true)))) (.t 23), none, 4095⟩])
 (.cond 24 (.seq (.reg false [⟨some 4, .mv (.c (.d (.v (.pointer none)))), none, 0⟩])
   (.ret))
   (.skip))
def K66_3 : CC := .reg false [⟨some 8, .mv (.t 0), none, 0⟩,
   ⟨some 9, .bld [.d (.v (.int .i64 0)), .d (.v (.int .i64 0)), .d (.v (.int .u64 0)), .d (.v (.int .u64 0)), .d (.v (.int .u64 0))] [], none, 0⟩,
   ⟨some 10, .nilc (.t 8), none, 0⟩,
   ⟨some 11, .fa 8 (.t 10), none, 0⟩,
   ⟨none, .st 5 (.t 11) (.t 9), none, 0⟩]
def K66_4 : CC := .seq (.reg false [⟨some 6, .mv (.t 0), none, 0⟩,
   ⟨some 7, .eq .ptr false (.t 6) (.c (.d (.v (.pointer none)))), none, 0⟩])
 (.cond 7 (.seq (.reg false [⟨some 4, .mv (.c (.d (.v (.pointer none)))), none, 0⟩])
   (.ret))
   (.skip))
def K66_5 : CC := .reg false [⟨some 3, .box 77 5 (.t 1), none, 0⟩,
   ⟨some 4, .mv (.c (.d (.v (.pointer none)))), none, 0⟩]
/-- (*coatcheck/memory.Memory).reach -/
def C66 : CF := ⟨2, [(4, none)],
 .seq K66_5 (.seq K66_4 (.seq K66_3 (.seq K66_2 K66_1)))⟩
theorem c66 : coF Try.prog Try.f51 = some C66 := by kernel_rfl
def A66 : Ann := { keep := [0, 1, 3, 4, 5, 7, 24], live := [] }
def E66 {Ω : Type} : Env Ω := enil
theorem e66 : GoodE Try.prog E66 := GoodE.nil
def S66 {Ω : Type} : Spec Ω := inl E66 A66 C66 false
theorem g66 : Good1 Try.prog 51 S66 := Good1.inl e66 mix Try.func51 (by kernel_rfl) c66 A66 false
/-- (*coatcheck/memory.Memory).Clear -/
def C29 : CF := ⟨1, [],
 .seq (.reg false [⟨some 2, .mv (.t 0), none, 0⟩,
   ⟨some 3, .eq .ptr true (.t 2) (.c (.d (.v (.pointer none)))), none, 0⟩])
 (.cond 3 (.reg false [⟨some 4, .mv (.t 0), none, 0⟩,
     ⟨some 5, .bld [.d (.v (.int .i64 0)), .d (.v (.int .i64 0)), .d (.v (.int .u64 0)), .d (.v (.int .u64 0)), .d (.v (.int .u64 0))] [], none, 0⟩,
     ⟨some 6, .nilc (.t 4), none, 0⟩,
     ⟨some 7, .fa 8 (.t 6), none, 0⟩,
     ⟨none, .st 5 (.t 7) (.t 5), none, 0⟩])
   (.skip))⟩
theorem c29 : coF Try.prog Try.f52 = some C29 := by kernel_rfl
def A29 : Ann := { keep := [0, 3], live := [] }
def E29 {Ω : Type} : Env Ω := enil
theorem e29 : GoodE Try.prog E29 := GoodE.nil
/-- (*coatcheck/memory.Memory).Load -/
def C21 : CF := ⟨2, [(4, none)],
 .seq (.reg false [⟨some 4, .mv (.c (.d (.v (.int .u64 0)))), none, 0⟩])
 (.seq (.seq (.reg false [⟨some 6, .mv (.t 0), none, 0⟩,
   ⟨some 7, .mv (.t 1), none, 0⟩,
   ⟨some 8, .bld [.d (.v (.int .i64 0)), .d (.v (.int .i64 0)), .d (.v (.int .u64 0)), .d (.v (.int .u64 0)), .d (.v (.int .u64 0))] [(0, 1, .c (.d (.v (.int .i64 1)))), (1, 1, .t 7)], none, 0⟩,
   ⟨some 9, .call (.c (.fn (.func 51) [] [])) [.t 6, .t 8], none, 0⟩,
   ⟨some 5, .mv (.t 9), none, 0⟩])
 (.seq (.reg false [⟨some 10, .mv (.t 5), none, 0⟩,
   ⟨some 11, .eq .ptr true (.t 10) (.c (.d (.v (.pointer none)))), none, 0⟩])
 (.cond 11 (.seq (.reg false [⟨some 12, .mv (.t 5), none, 0⟩,
     ⟨some 13, .nilc (.t 12), none, 0⟩,
     ⟨some 14, .ld 1 false (.t 13), none, 0⟩,
     ⟨some 4, .mv (.t 14), none, 0⟩])
   (.ret))
   (.skip))))
 (.seq (.reg false [⟨some 4, .mv (.c (.d (.v (.int .u64 0)))), none, 0⟩])
 (.ret)))⟩
theorem c21 : coF Try.prog Try.f58 = some C21 := by kernel_rfl
def A21 : Ann := { keep := [0, 1, 4, 5, 11], live := [] }
def E21 {Ω : Type} : Env Ω := econs 51 S66 (enil)
theorem e21 : GoodE Try.prog E21 := GoodE.cons g66 (GoodE.nil)
/-- (*coatcheck/memory.Memory).Store -/
def C23 : CF := ⟨3, [],
 .seq (.reg false [⟨some 7, .mv (.t 0), none, 0⟩,
   ⟨some 8, .mv (.t 1), none, 0⟩,
   ⟨some 9, .mv (.t 2), none, 0⟩,
   ⟨some 10, .bld [.d (.v (.int .i64 0)), .d (.v (.int .i64 0)), .d (.v (.int .u64 0)), .d (.v (.int .u64 0)), .d (.v (.int .u64 0))] [(0, 1, .c (.d (.v (.int .i64 2)))), (1, 1, .t 8), (2, 1, .t 9)], none, 0⟩,
   ⟨some 11, .call (.c (.fn (.func 51) [] [])) [.t 7, .t 10], none, 0⟩,
   ⟨some 6, .mv (.t 11), none, 0⟩])
 (.seq (.reg false [⟨some 12, .mv (.t 6), none, 0⟩,
   ⟨some 13, .eq .ptr true (.t 12) (.c (.d (.v (.pointer none)))), none, 0⟩])
 (.cond 13 (.reg false [⟨some 14, .mv (.t 6), none, 0⟩,
     ⟨some 15, .mv (.t 2), none, 0⟩,
     ⟨some 16, .nilc (.t 14), none, 0⟩,
     ⟨none, .st 1 (.t 16) (.t 15), none, 0⟩])
   (.skip)))⟩
theorem c23 : coF Try.prog Try.f13 = some C23 := by kernel_rfl
def A23 : Ann := { keep := [0, 1, 2, 6, 13], live := [] }
def E23 {Ω : Type} : Env Ω := econs 51 S66 (enil)
theorem e23 : GoodE Try.prog E23 := GoodE.cons g66 (GoodE.nil)
/-- (*coatcheck/memory.Memory).Cas -/
def C25 : CF := ⟨4, [(8, none)],
 .seq (.reg false [⟨some 8, .mv (.c (.d (.v (.bool false)))), none, 0⟩])
 (.seq (.reg false [⟨some 10, .mv (.t 0), none, 0⟩,
   ⟨some 11, .mv (.t 1), none, 0⟩,
   ⟨some 12, .mv (.t 2), none, 0⟩,
   ⟨some 13, .mv (.t 3), none, 0⟩,
   ⟨some 14, .bld [.d (.v (.int .i64 0)), .d (.v (.int .i64 0)), .d (.v (.int .u64 0)), .d (.v (.int .u64 0)), .d (.v (.int .u64 0))] [(0, 1, .c (.d (.v (.int .i64 3)))), (1, 1, .t 11), (2, 1, .t 12), (3, 1, .t 13)], none, 0⟩,
   ⟨some 15, .call (.c (.fn (.func 51) [] [])) [.t 10, .t 14], none, 0⟩,
   ⟨some 9, .mv (.t 15), none, 0⟩])
 (.seq (.seq (.reg false [⟨some 16, .mv (.t 9), none, 0⟩,
   ⟨some 17, .eq .ptr false (.t 16) (.c (.d (.v (.pointer none)))), none, 0⟩,
   ⟨some 18, .mv (.t 17), none, 0⟩,
   ⟨some 19, .mv (.t 9), some (18, false), 0⟩,
   ⟨some 20, .nilc (.t 19), some (18, false), 0⟩,
   ⟨some 21, .ld 1 false (.t 20), some (18, false), 0⟩,
   ⟨some 22, .mv (.t 2), some (18, false), 0⟩,
   ⟨some 23, .eq .int true (.t 21) (.t 22), some (18, false), 0⟩,
   ⟨some 24, .pick (.t 18) (.c (.d (.v (.bool true)))) (.t 23), none, 0⟩])
 (.cond 24 (.seq (.reg false [⟨some 8, .mv (.c (.d (.v (.bool false)))), none, 0⟩])
   (.ret))
   (.skip)))
 (.seq (.reg false [⟨some 25, .mv (.t 9), none, 0⟩,
   ⟨some 26, .mv (.t 3), none, 0⟩,
   ⟨some 27, .nilc (.t 25), none, 0⟩,
   ⟨none, .st 1 (.t 27) (.t 26), none, 0⟩])
 (.seq (.reg false [⟨some 8, .mv (.c (.d (.v (.bool true)))), none, 0⟩])
 (.ret)))))⟩
theorem c25 : coF Try.prog Try.f60 = some C25 := by kernel_rfl
def A25 : Ann := { keep := [0, 1, 2, 3, 8, 9, 24], live := [] }
def E25 {Ω : Type} : Env Ω := econs 51 S66 (enil)
theorem e25 : GoodE Try.prog E25 := GoodE.cons g66 (GoodE.nil)
/-- (*coatcheck/memory.Memory).All -/
def C33 : CF := ⟨1, [(2, none)],
 .seq (.reg false [⟨some 2, .mv (.c (.d (.v (.slice none 0 0)))), none, 0⟩])
 (.seq (.seq (.reg false [⟨some 3, .mv (.t 0), none, 0⟩,
   ⟨some 4, .eq .ptr false (.t 3) (.c (.d (.v (.pointer none)))), none, 0⟩])
 (.cond 4 (.seq (.reg false [⟨some 2, .mv (.c (.d (.v (.slice none 0 0)))), none, 0⟩])
   (.ret))
   (.skip)))
 (.seq (.reg false [⟨some 5, .mv (.t 0), none, 0⟩,
   ⟨some 6, .nilc (.t 5), none, 0⟩,
   ⟨some 7, .fa 13 (.t 6), none, 0⟩,
   ⟨some 8, .ld 1 false (.t 7), none, 0⟩,
   ⟨some 9, .call (.c (.fn (.func 63) [] [])) [.t 8], none, 0⟩,
   ⟨some 2, .mv (.t 9), none, 0⟩])
 (.ret)))⟩
theorem c33 : coF Try.prog Try.f17 = some C33 := by kernel_rfl
def A33 : Ann := { keep := [0, 2, 4], live := [] }
def E33 {Ω : Type} : Env Ω := econs 63 S65 (enil)
theorem e33 : GoodE Try.prog E33 := GoodE.cons g65 (GoodE.nil)
end Go.Sx.Pr

/- Memory's operations, of both layers: what they answer and leave. -/
namespace Go.Sx.Pr
open Go Go.Sx Go.Sx.Md Go.Proofs
set_option maxRecDepth 100000

def ctsM : List CT := [.i .i64, .i .i64, .i .i64, .i .i64, .i .i64, .i .i64, .i .i64, .i .u64, .i .i64, .i .i64, .i .u64, .i .u64, .i .u64]

def encC (c : Cf) : List SV := [I c.a, I c.b, I c.c, I c.d, I c.e, I c.f, I c.g, U c.l]
def encM (m : Mm) : List SV := [I m.c.a, I m.c.b, I m.c.c, I m.c.d, I m.c.e, I m.c.f, I m.c.g, U m.c.l, I m.s.k, I m.s.a, U m.s.x, U m.s.y, U m.s.o, .own 1]
def gi (c : List SV) (j : Nat) : Int := getI (dv (c.getD j .top))
def decC (c : List SV) : Cf := ⟨gi c 0, gi c 1, gi c 2, gi c 3, gi c 4, gi c 5, gi c 6, gi c 7⟩
def decM (c : List SV) (ws : List Int) : Mm := ⟨decC c, ⟨gi c 8, gi c 9, gi c 10, gi c 11, gi c 12⟩, ws⟩
def isOwn1 : List SV → Bool
  | [.own 1] => true
  | _ => false
def isM (c : List SV) : Bool := isC ctsM (c.take 13) && isOwn1 (c.drop 13)
theorem isOwn1_eq {c : List SV} (h : isOwn1 c = true) : c = [.own 1] := by
  unfold isOwn1 at h
  split at h
  · rfl
  · cases h

theorem isC_get {cts : List CT} {c : List SV} (h : isC cts c = true) : c = (cellsD cts 0 (fun j => gi c j) (fun j => getB (dv (c.getD j .top))) (fun j => getS (dv (c.getD j .top)))).map .d :=
  isC_enc h (fun i _ => by simp [gi]) (fun i _ => by simp) (fun i _ => by simp)

theorem gi_take {c : List SV} {n j : Nat} (h : j < n) : gi (c.take n) j = gi c j := by
  simp [gi, List.getD_eq_getElem?_getD, List.getElem?_take, h]
theorem enc_decM {c : List SV} (ws : List Int) (h : isM c = true) : encM (decM c ws) = c := by
  simp only [isM, Bool.and_eq_true] at h
  have h1 := isC_get h.1
  have h2 := isOwn1_eq h.2
  have e : c = c.take 13 ++ c.drop 13 := (List.take_append_drop 13 c).symm
  rw [h2, h1] at e
  simp only [cellsD, ctsM, List.map_cons, List.map_nil, gi_take (show 0 < 13 by decide), gi_take (show 1 < 13 by decide), gi_take (show 2 < 13 by decide), gi_take (show 3 < 13 by decide), gi_take (show 4 < 13 by decide), gi_take (show 5 < 13 by decide), gi_take (show 6 < 13 by decide), gi_take (show 7 < 13 by decide), gi_take (show 8 < 13 by decide), gi_take (show 9 < 13 by decide), gi_take (show 10 < 13 by decide), gi_take (show 11 < 13 by decide), gi_take (show 12 < 13 by decide), Nat.zero_add, Nat.reduceAdd, List.cons_append, List.nil_append] at e
  exact e.symm

/-- Memory, in one layer's order. -/
structure Lay where
  is : List SV → Bool
  dec : List SV → List Int → Mm
  enc : Mm → List SV
  own : Nat
def LM : Lay := ⟨isM, decM, encM, 13⟩
def findM (j : Nat) (h : SH) (args : List SV) : Option (List Nat) := match args with
  | .ptr l 0 :: _ => match hget h l with
    | .cells _ c => match c.getD j .top with
      | .own l2 => some [l, l2]
      | _ => none
    | _ => none
  | .d (.v (.pointer none)) :: _ => some []
  | _ => none

abbrev objs (L : Lay) (t tw : TypeId) (m : Mm) : SH := [.cells t (L.enc m), .rowi tw .u64 m.ws]

/-- A function by its answer on a memory (guard, result, memory), and on none. -/
def memF (L : Lay) (g : Mm → List SV → Option (Bool × SV × Mm)) (gn : List SV → Option SV) : List SV → SH → List Alt := fun a0 h0 => match a0, h0 with
  | .ptr 0 0 :: xs, [.cells t c, .rowi tw .u64 ws] => bif L.is c then (match g (L.dec c ws) xs with
    | some (b, r, m') => [(b, r, objs L t tw m')]
    | none => []) else []
  | .d (.v (.pointer none)) :: xs, [] => match gn xs with
    | some r => [(true, r, [])]
    | none => []
  | _, _ => []

abbrev KT (n : Nat) : SV → SH → Option (SV × SH) := fun r H => some (r, trim n r (List.range n) H)

theorem kt_of {P : Program} {e : {Ω : Type} → Env Ω} (he : GoodE P e) {A : Ann} {C : CF} {args : List SV} {h h1 : SH} {n : Nat} {r : SV} (hr : sxFn (e (Ω := SV × SH)) A C args h (KT n) = some (r, h1)) :
    ∃ H, trim n r (List.range n) H = h1 ∧ sxFn (e (Ω := SV × SH)) A C args h KS = some (r, H) := by
  obtain ⟨r', h', k1, k2⟩ := sxFn_par (he.par _ (SV × SH)) hr
  simp only [Option.some.injEq, Prod.mk.injEq] at k1
  obtain ⟨rfl, rfl⟩ := k1
  exact ⟨h', rfl, k2 KS⟩

theorem lay_M : ∀ c ws, LM.is c = true → LM.enc (LM.dec c ws) = c ∧ (LM.dec c ws).ws = ws := fun c ws h => ⟨enc_decM ws h, rfl⟩
abbrev An (A : Ann) (n : Nat) : Ann := { A with n0 := n, ap := [] }

theorem memFGood {P : Program} {g : Nat} {fn : Func} (hf : P.funcs[g]? = some fn) (hname : (fn.name == "runtime.NumGoroutine") = false) {C : CF} (hC : coF P fn = some C) {A : Ann} {e : {Ω : Type} → Env Ω} (he : GoodE P e) (hmix : P.follows .mixedOrders = true)
    {ts : List (Option (List CT))} {L : Lay} (hL : ∀ c ws, L.is c = true → L.enc (L.dec c ws) = c ∧ (L.dec c ws).ws = ws) {f : Mm → List SV → Option (Bool × SV × Mm)} {gn : List SV → Option SV}
    (hrun : ∀ m xs r m' t tw, f m xs = some (true, r, m') → ∃ r0, LeV r0 r ∧ sxFn (e (Ω := SV × SH)) (An A 2) C (.ptr 0 0 :: xs) (objs L t tw m) (KT 2) = some (r0, objs L t tw m'))
    (hnil : ∀ xs r, gn xs = some r → sxFn (e (Ω := SV × SH)) (An A 0) C (.d (.v (.pointer none)) :: xs) [] (KT 0) = some (r, [])) :
    Good1 P g (fun {Ω} => memSpec ts (findM L.own) [] (memF L f gn) (Ω := Ω)) :=
  memGood (A := A) hf hname hC he hmix (fun _ _ _ _ i hi => by cases hi) fun a0 h0 r h1 hF => by
    unfold memF at hF
    split at hF
    · rename_i xs t c tw ws
      cases hc : L.is c with
      | false => rw [hc] at hF; cases hF
      | true =>
        rw [hc, cond_true] at hF
        obtain ⟨e1, e2⟩ := hL c ws hc
        split at hF
        · rename_i b r' m' hg
          cases b with
          | false => cases hF
          | true =>
            simp only [firstAlt, cond_true, Option.some.injEq, Prod.mk.injEq] at hF
            obtain ⟨rfl, rfl⟩ := hF
            obtain ⟨r0, q1, q2⟩ := hrun _ xs r' m' t tw hg
            rw [show objs L t tw (L.dec c ws) = [.cells t c, .rowi tw .u64 ws] by simp only [objs, e1, e2]] at q2
            obtain ⟨H, q3, q4⟩ := kt_of he q2
            exact ⟨r0, _, H, q1, RowEq.refl _, q3, q4⟩
        · cases hF
    · rename_i xs
      split at hF
      · rename_i r' hg
        simp only [firstAlt, cond_true, Option.some.injEq, Prod.mk.injEq] at hF
        obtain ⟨rfl, rfl⟩ := hF
        obtain ⟨H, q3, q4⟩ := kt_of he (hnil xs r' hg)
        refine ⟨r', _, H, ?_, RowEq.refl _, q3, q4⟩
        exact LeV.refl r'
      · cases hF
    · cases hF
end Go.Sx.Pr

/- Memory's operations, of both layers, on the pure memory. -/
namespace Go.Sx.Pr
open Go Go.Sx Go.Sx.Md Go.Proofs
set_option maxRecDepth 100000
theorem n29 (m : Mm) (t tw : Nat) :
    sxFn (E29 (Ω := SV × SH)) (An A29 2) C29 [.ptr 0 0] (objs LM t tw m) (KT 2) =
    some (.tup [], [.cells t [I (Cf.a (Mm.c m)), I (Cf.b (Mm.c m)), I (Cf.c (Mm.c m)), I (Cf.d (Mm.c m)), I (Cf.e (Mm.c m)), I (Cf.f (Mm.c m)), I (Cf.g (Mm.c m)), U (Cf.l (Mm.c m)), I 0, I 0, U 0, U 0, U 0, .own 1], .rowi tw .u64 (Mm.ws m)]) := by kernel_rfl
theorem n21 (m : Mm) (t tw : Nat) (a : Int) :
    sxFn (E21 (Ω := SV × SH)) (An A21 2) C21 [.ptr 0 0, I a] (objs LM t tw m) (KT 2) =
    br (decide (a < 0)) (some (U 0, [.cells t [I (Cf.a (Mm.c m)), I (Cf.b (Mm.c m)), I (Cf.c (Mm.c m)), I (Cf.d (Mm.c m)), I (Cf.e (Mm.c m)), I (Cf.f (Mm.c m)), I (Cf.g (Mm.c m)), U (Cf.l (Mm.c m)), I 0, I 0, U 0, U 0, U 0, .own 1], .rowi tw .u64 (Mm.ws m)])) (br (decide (a ≥ (↑(List.length (Mm.ws m)) : Int))) (some (U 0, [.cells t [I (Cf.a (Mm.c m)), I (Cf.b (Mm.c m)), I (Cf.c (Mm.c m)), I (Cf.d (Mm.c m)), I (Cf.e (Mm.c m)), I (Cf.f (Mm.c m)), I (Cf.g (Mm.c m)), U (Cf.l (Mm.c m)), I 0, I 0, U 0, U 0, U 0, .own 1], .rowi tw .u64 (Mm.ws m)])) (br (inB a (List.length (Mm.ws m))) (some (U (List.getD (Mm.ws m) (Int.toNat a) 0), [.cells t [I (Cf.a (Mm.c m)), I (Cf.b (Mm.c m)), I (Cf.c (Mm.c m)), I (Cf.d (Mm.c m)), I (Cf.e (Mm.c m)), I (Cf.f (Mm.c m)), I (Cf.g (Mm.c m)), U (Cf.l (Mm.c m)), I 1, I a, U 0, U 0, U (List.getD (Mm.ws m) (Int.toNat a) 0), .own 1], .rowi tw .u64 (Mm.ws m)])) none)) := by kernel_rfl
theorem n23 (m : Mm) (t tw : Nat) (a x : Int) :
    sxFn (E23 (Ω := SV × SH)) (An A23 2) C23 [.ptr 0 0, I a, U x] (objs LM t tw m) (KT 2) =
    br (decide (a < 0)) (some (.tup [], [.cells t [I (Cf.a (Mm.c m)), I (Cf.b (Mm.c m)), I (Cf.c (Mm.c m)), I (Cf.d (Mm.c m)), I (Cf.e (Mm.c m)), I (Cf.f (Mm.c m)), I (Cf.g (Mm.c m)), U (Cf.l (Mm.c m)), I 0, I 0, U 0, U 0, U 0, .own 1], .rowi tw .u64 (Mm.ws m)])) (br (decide (a ≥ (↑(List.length (Mm.ws m)) : Int))) (some (.tup [], [.cells t [I (Cf.a (Mm.c m)), I (Cf.b (Mm.c m)), I (Cf.c (Mm.c m)), I (Cf.d (Mm.c m)), I (Cf.e (Mm.c m)), I (Cf.f (Mm.c m)), I (Cf.g (Mm.c m)), U (Cf.l (Mm.c m)), I 0, I 0, U 0, U 0, U 0, .own 1], .rowi tw .u64 (Mm.ws m)])) (br (inB a (List.length (Mm.ws m))) (some (.tup [], [.cells t [I (Cf.a (Mm.c m)), I (Cf.b (Mm.c m)), I (Cf.c (Mm.c m)), I (Cf.d (Mm.c m)), I (Cf.e (Mm.c m)), I (Cf.f (Mm.c m)), I (Cf.g (Mm.c m)), U (Cf.l (Mm.c m)), I 2, I a, U x, U 0, U (List.getD (Mm.ws m) (Int.toNat a) 0), .own 1], .rowi tw .u64 (List.set (Mm.ws m) (Int.toNat a) x)])) none)) := by kernel_rfl
theorem n25 (m : Mm) (t tw : Nat) (a x y : Int) :
    sxFn (E25 (Ω := SV × SH)) (An A25 2) C25 [.ptr 0 0, I a, U x, U y] (objs LM t tw m) (KT 2) =
    br (decide (a < 0)) (some (B false, [.cells t [I (Cf.a (Mm.c m)), I (Cf.b (Mm.c m)), I (Cf.c (Mm.c m)), I (Cf.d (Mm.c m)), I (Cf.e (Mm.c m)), I (Cf.f (Mm.c m)), I (Cf.g (Mm.c m)), U (Cf.l (Mm.c m)), I 0, I 0, U 0, U 0, U 0, .own 1], .rowi tw .u64 (Mm.ws m)])) (br (decide (a ≥ (↑(List.length (Mm.ws m)) : Int))) (some (B false, [.cells t [I (Cf.a (Mm.c m)), I (Cf.b (Mm.c m)), I (Cf.c (Mm.c m)), I (Cf.d (Mm.c m)), I (Cf.e (Mm.c m)), I (Cf.f (Mm.c m)), I (Cf.g (Mm.c m)), U (Cf.l (Mm.c m)), I 0, I 0, U 0, U 0, U 0, .own 1], .rowi tw .u64 (Mm.ws m)])) (br (inB a (List.length (Mm.ws m))) (br (!List.getD (Mm.ws m) (Int.toNat a) 0 == x) (some (B false, [.cells t [I (Cf.a (Mm.c m)), I (Cf.b (Mm.c m)), I (Cf.c (Mm.c m)), I (Cf.d (Mm.c m)), I (Cf.e (Mm.c m)), I (Cf.f (Mm.c m)), I (Cf.g (Mm.c m)), U (Cf.l (Mm.c m)), I 3, I a, U x, U y, U (List.getD (Mm.ws m) (Int.toNat a) 0), .own 1], .rowi tw .u64 (Mm.ws m)])) (some (B true, [.cells t [I (Cf.a (Mm.c m)), I (Cf.b (Mm.c m)), I (Cf.c (Mm.c m)), I (Cf.d (Mm.c m)), I (Cf.e (Mm.c m)), I (Cf.f (Mm.c m)), I (Cf.g (Mm.c m)), U (Cf.l (Mm.c m)), I 3, I a, U x, U y, U (List.getD (Mm.ws m) (Int.toNat a) 0), .own 1], .rowi tw .u64 (List.set (Mm.ws m) (Int.toNat a) y)]))) none)) := by kernel_rfl
def mAddV (m : Mm) (a x : Int) : Int := bif Mm.ok m a then IntKind.wrap .u64 (IntKind.wrap .u64 (Mm.get m a + x) - x) else 0
theorem inB3 (a : Int) (n : Nat) : (decide (a < 0) = true ∧ inB a n = false) ∨ (decide (a < 0) = false ∧ decide (a ≥ (n : Int)) = true ∧ inB a n = false) ∨ (decide (a < 0) = false ∧ decide (a ≥ (n : Int)) = false ∧ inB a n = true) := by
  simp only [inB, decide_eq_true_eq, decide_eq_false_iff_not, Bool.and_eq_false_iff, Bool.and_eq_true]
  omega
/-- A number in a cell of an argument. -/
def sI : SV → Option Int
  | .d (.v (.int .i64 x)) => some x
  | _ => none
def sU : SV → Option Int
  | .d (.v (.int .u64 x)) => some x
  | _ => none
theorem sI_eq {x : SV} {a : Int} (h : sI x = some a) : x = I a := by
  unfold sI at h
  split at h
  · simp only [Option.some.injEq] at h; subst h; rfl
  · cases h
theorem sU_eq {x : SV} {a : Int} (h : sU x = some a) : x = U a := by
  unfold sU at h
  split at h
  · simp only [Option.some.injEq] at h; subst h; rfl
  · cases h
theorem v29 {m : Mm} {t tw : TypeId} : sxFn (E29 (Ω := SV × SH)) (An A29 2) C29 [.ptr 0 0] (objs LM t tw m) (KT 2) = some (.tup [], objs LM t tw (mClear m)) := by
  rw [n29]
  rfl
def G29 (m : Mm) (l : List SV) : Option (Bool × SV × Mm) := match l with
  | [] => some (true, .tup [], mClear m)
  | _ => none
def S29m {Ω : Type} : Spec Ω := memSpec [none] (findM LM.own) [] (memF LM G29 (fun _ => none))
theorem g29m : Good1 Try.prog 52 S29m := memFGood (A := A29) Try.func52 (by kernel_rfl) c29 e29 mix (L := LM) lay_M (fun m xs r m' t tw h => by
  unfold G29 at h
  split at h
  · simp only [Option.some.injEq, Prod.mk.injEq, true_and] at h
    obtain ⟨rfl, rfl⟩ := h
    exact ⟨_, LeV.refl _, v29⟩
  · cases h) (fun xs r h => by cases h)
theorem v21 {m : Mm} {t tw : TypeId} {a : Int} : sxFn (E21 (Ω := SV × SH)) (An A21 2) C21 [.ptr 0 0, I a] (objs LM t tw m) (KT 2) = some (U (mLoadV m a), objs LM t tw (mLoad m a)) := by
  rw [n21]
  rcases inB3 a m.ws.length with ⟨h1, h3⟩ | ⟨h1, h2, h3⟩ | ⟨h1, h2, h3⟩
  · simp only [h1, h3, br_t, br_f, mLoadV, mAddV, mCasB, mLoad, mStore, mCas, mAdd, mSee, mSet, Mm.ok, cond_true, cond_false, Bool.false_and, Bool.true_and]
    rfl
  · simp only [h1, h2, h3, br_t, br_f, mLoadV, mAddV, mCasB, mLoad, mStore, mCas, mAdd, mSee, mSet, Mm.ok, cond_true, cond_false, Bool.false_and, Bool.true_and]
    rfl
  · simp only [h1, h2, h3, br_t, br_f, mLoadV, mAddV, mCasB, mLoad, mStore, mCas, mAdd, mSee, mSet, Mm.ok, Mm.get, cond_true, cond_false, Bool.false_and, Bool.true_and]
    rfl
def G21 (m : Mm) (l : List SV) : Option (Bool × SV × Mm) := match l with
  | [p0] => match sI p0 with
    | some a => some (true, U (mLoadV m a), mLoad m a)
    | _ => none
  | _ => none
def S21m {Ω : Type} : Spec Ω := memSpec [none, none] (findM LM.own) [] (memF LM G21 (fun _ => none))
theorem g21m : Good1 Try.prog 58 S21m := memFGood (A := A21) Try.func58 (by kernel_rfl) c21 e21 mix (L := LM) lay_M (fun m xs r m' t tw h => by
  unfold G21 at h
  split at h
  · split at h
    · rename_i h0
      simp only [Option.some.injEq, Prod.mk.injEq, true_and] at h
      obtain ⟨rfl, rfl⟩ := h
      rw [sI_eq h0]
      exact ⟨_, LeV.refl _, v21⟩
    · cases h
  · cases h) (fun xs r h => by cases h)
theorem v23 {m : Mm} {t tw : TypeId} {a x : Int} : sxFn (E23 (Ω := SV × SH)) (An A23 2) C23 [.ptr 0 0, I a, U x] (objs LM t tw m) (KT 2) = some (.tup [], objs LM t tw (mStore m a x)) := by
  rw [n23]
  rcases inB3 a m.ws.length with ⟨h1, h3⟩ | ⟨h1, h2, h3⟩ | ⟨h1, h2, h3⟩
  · simp only [h1, h3, br_t, br_f, mLoadV, mAddV, mCasB, mLoad, mStore, mCas, mAdd, mSee, mSet, Mm.ok, cond_true, cond_false, Bool.false_and, Bool.true_and]
    rfl
  · simp only [h1, h2, h3, br_t, br_f, mLoadV, mAddV, mCasB, mLoad, mStore, mCas, mAdd, mSee, mSet, Mm.ok, cond_true, cond_false, Bool.false_and, Bool.true_and]
    rfl
  · simp only [h1, h2, h3, br_t, br_f, mLoadV, mAddV, mCasB, mLoad, mStore, mCas, mAdd, mSee, mSet, Mm.ok, Mm.get, cond_true, cond_false, Bool.false_and, Bool.true_and]
    rfl
def G23 (m : Mm) (l : List SV) : Option (Bool × SV × Mm) := match l with
  | [p0, p1] => match sI p0, sU p1 with
    | some a, some x => some (true, .tup [], mStore m a x)
    | _, _ => none
  | _ => none
def S23m {Ω : Type} : Spec Ω := memSpec [none, none, none] (findM LM.own) [] (memF LM G23 (fun _ => none))
theorem g23m : Good1 Try.prog 13 S23m := memFGood (A := A23) Try.func13 (by kernel_rfl) c23 e23 mix (L := LM) lay_M (fun m xs r m' t tw h => by
  unfold G23 at h
  split at h
  · split at h
    · rename_i h0 h1
      simp only [Option.some.injEq, Prod.mk.injEq, true_and] at h
      obtain ⟨rfl, rfl⟩ := h
      rw [sI_eq h0, sU_eq h1]
      exact ⟨_, LeV.refl _, v23⟩
    · cases h
  · cases h) (fun xs r h => by cases h)
theorem v25 {m : Mm} {t tw : TypeId} {a x y : Int} : sxFn (E25 (Ω := SV × SH)) (An A25 2) C25 [.ptr 0 0, I a, U x, U y] (objs LM t tw m) (KT 2) = some (B (mCasB m a x), objs LM t tw (mCas m a x y)) := by
  rw [n25]
  rcases inB3 a m.ws.length with ⟨h1, h3⟩ | ⟨h1, h2, h3⟩ | ⟨h1, h2, h3⟩
  · simp only [h1, h3, br_t, br_f, mLoadV, mAddV, mCasB, mLoad, mStore, mCas, mAdd, mSee, mSet, Mm.ok, cond_true, cond_false, Bool.false_and, Bool.true_and]
    rfl
  · simp only [h1, h2, h3, br_t, br_f, mLoadV, mAddV, mCasB, mLoad, mStore, mCas, mAdd, mSee, mSet, Mm.ok, cond_true, cond_false, Bool.false_and, Bool.true_and]
    rfl
  · simp only [h1, h2, h3, br_t, br_f, mLoadV, mAddV, mCasB, mLoad, mStore, mCas, mAdd, mSee, mSet, Mm.ok, Mm.get, cond_true, cond_false, Bool.false_and, Bool.true_and]
    cases hx : (m.ws.getD a.toNat 0 == x) <;> first | rfl | (simp only [hx, br_t, br_f, cond_true, cond_false, Bool.not_true, Bool.not_false]; rfl)
def G25 (m : Mm) (l : List SV) : Option (Bool × SV × Mm) := match l with
  | [p0, p1, p2] => match sI p0, sU p1, sU p2 with
    | some a, some x, some y => some (true, B (mCasB m a x), mCas m a x y)
    | _, _, _ => none
  | _ => none
def S25m {Ω : Type} : Spec Ω := memSpec [none, none, none, none] (findM LM.own) [] (memF LM G25 (fun _ => none))
theorem g25m : Good1 Try.prog 60 S25m := memFGood (A := A25) Try.func60 (by kernel_rfl) c25 e25 mix (L := LM) lay_M (fun m xs r m' t tw h => by
  unfold G25 at h
  split at h
  · split at h
    · rename_i h0 h1 h2
      simp only [Option.some.injEq, Prod.mk.injEq, true_and] at h
      obtain ⟨rfl, rfl⟩ := h
      rw [sI_eq h0, sU_eq h1, sU_eq h2]
      exact ⟨_, LeV.refl _, v25⟩
    · cases h
  · cases h) (fun xs r h => by cases h)
end Go.Sx.Pr

/- Announcements; what is well formed. -/
namespace Go.Sx.Pr
open Go Go.Sx Go.Sx.Md Go.Proofs
set_option maxRecDepth 100000
/-! ### well formed -/
def okM (m : Mm) : Bool := (chkC m.c == 0) && u64B m.ws
def okW (x : Wk) : Bool := uB x.opT && (uB x.opX && (uB x.E && (uB x.t0 && (uB x.t1 && (uB x.t2 && (uB x.H && (uB x.N && (uB x.V && (uB x.U && (uB x.G && uB x.T))))))))))

theorem uB_get {m : Mm} {a : Int} (h : u64B m.ws = true) : uB (Mm.get m a) = true := by
  simp only [u64B, List.all_eq_true, Bool.and_eq_true, decide_eq_true_eq] at h
  rw [uB_iff]
  unfold Mm.get
  rw [List.getD_eq_getElem?_getD]
  cases hx : m.ws[a.toNat]? with
  | none => simp
  | some v =>
    have := h v (List.mem_of_getElem? hx)
    simpa using this
theorem uB_zero : uB 0 = true := by decide
theorem uB_load {m : Mm} {a : Int} (h : u64B m.ws = true) : uB (mLoadV m a) = true := by
  unfold mLoadV
  cases Mm.ok m a with
  | true => exact uB_get h
  | false => exact uB_zero
theorem u64B_set {l : List Int} {i : Nat} {v : Int} (h : u64B l = true) (hv : uB v = true) : u64B (l.set i v) = true := by
  simp only [u64B, List.all_eq_true, Bool.and_eq_true, decide_eq_true_eq] at h ⊢
  rw [uB_iff] at hv
  intro x hx
  rcases List.mem_or_eq_of_mem_set hx with h1 | h1
  · exact h x h1
  · subst h1; exact hv
theorem u64B_mSet {m : Mm} {g : Bool} {a v : Int} (h : u64B m.ws = true) (hv : uB v = true) : u64B (mSet m g a v) = true := by
  unfold mSet
  cases g with
  | true => exact u64B_set h hv
  | false => exact h
theorem uB_pHead {p v : Int} : uB (pHead p v) = true := by rw [uB_iff]; unfold pHead; omega
theorem uB_pEntry {p v t : Int} : uB (pEntry p v t) = true := by rw [uB_iff]; unfold pEntry; omega
theorem uB_pTicket {p v : Int} : uB (pTicket p v) = true := by rw [uB_iff]; unfold pTicket; omega
theorem uB_div {x : Int} {n : Int} (h : uB x = true) (hn : 0 < n) : uB (x / n) = true := by
  rw [uB_iff] at h ⊢
  refine ⟨Int.ediv_nonneg h.1 (by omega), ?_⟩
  have := Int.ediv_le_self n h.1
  omega
theorem uB_mod {x : Int} {n : Int} (h : uB x = true) (hn : 0 < n) (hn2 : n ≤ 18446744073709551616) : uB (x % n) = true := by
  rw [uB_iff] at h ⊢
  have h1 := Int.emod_nonneg x (show n ≠ 0 by omega)
  have h2 := Int.emod_lt_of_pos x hn
  omega
theorem okM_load {m : Mm} {a : Int} (h : okM m = true) : okM (mLoad m a) = true := h
theorem okM_store {m : Mm} {a x : Int} (h : okM m = true) (hx : uB x = true) : okM (mStore m a x) = true := by
  simp only [okM, Bool.and_eq_true, mStore] at h ⊢
  exact ⟨h.1, u64B_mSet h.2 hx⟩
theorem okM_cas {m : Mm} {a x y : Int} (h : okM m = true) (hx : uB y = true) : okM (mCas m a x y) = true := by
  simp only [okM, Bool.and_eq_true, mCas] at h ⊢
  exact ⟨h.1, u64B_mSet h.2 hx⟩
theorem okM_u {m : Mm} (h : okM m = true) : u64B m.ws = true := by
  simp only [okM, Bool.and_eq_true] at h; exact h.2
theorem okW_all {x : Wk} (h : okW x = true) : uB x.opT = true ∧ uB x.opX = true ∧ uB x.E = true ∧ uB x.t0 = true ∧ uB x.t1 = true ∧ uB x.t2 = true ∧ uB x.H = true ∧ uB x.N = true ∧ uB x.V = true ∧ uB x.U = true ∧ uB x.G = true ∧ uB x.T = true := by
  simpa only [okW, Bool.and_eq_true] using h
theorem tmod_load {m : Mm} {a k : Int} (h : u64B m.ws = true) : Int.tmod (mLoadV m a) k = mLoadV m a % k := Int.tmod_eq_emod_of_nonneg (uB_iff.1 (uB_load h)).1
theorem tdiv_load {m : Mm} {a k : Int} (h : u64B m.ws = true) (hk : 0 < k) : IntKind.wrap .u64 (Int.tdiv (mLoadV m a) k) = mLoadV m a / k := by
  rw [Int.tdiv_eq_ediv_of_nonneg (uB_iff.1 (uB_load h)).1, IntKind.wrap_u64]
  have := uB_iff.1 (uB_div (uB_load (a := a) h) hk)
  omega
theorem clrV (m : Mm) (a : Int) : mLoadV (mClear m) a = mLoadV m a := rfl
theorem clrL (m : Mm) (a : Int) : mLoad (mClear m) a = mLoad m a := rfl
theorem clrS (m : Mm) (a x : Int) : mStore (mClear m) a x = mStore m a x := rfl
theorem clrB (m : Mm) (a x : Int) : mCasB (mClear m) a x = mCasB m a x := rfl
theorem clrC (m : Mm) (a x y : Int) : mCas (mClear m) a x y = mCas m a x y := rfl
theorem clrA (m : Mm) (a x : Int) : mAdd (mClear m) a x = mAdd m a x := rfl
theorem clrAV (m : Mm) (a x : Int) : mAddV (mClear m) a x = mAddV m a x := rfl
theorem low32 (v : Int) : IntKind.wrap .u64 (IntKind.wrap .u32 v) = v % 4294967296 := by simp only [IntKind.wrap_u64, IntKind.wrap_u32]; omega
theorem w64_low (v : Int) : IntKind.wrap .i64 (IntKind.wrap .i64 (v % 4294967296) - 1) = v % 4294967296 - 1 := by simp only [IntKind.wrap_i64]; omega
theorem vers {v : Int} (h : uB v = true) : IntKind.wrap .u64 (v / 4294967296 + 1) = v / 4294967296 + 1 := by
  have := uB_iff.1 h
  rw [IntKind.wrap_u64]; omega
theorem uB_vers {v : Int} (h : uB v = true) : uB (v / 4294967296 + 1) = true := by
  have := uB_iff.1 h
  rw [uB_iff]; omega
theorem nn {v : Int} (h : uB v = true) : decide (0 ≤ v) = true := decide_eq_true (uB_iff.1 h).1
theorem cfg_ok {m : Mm} (h : okM m = true) : chk m.c.a m.c.b m.c.c m.c.d m.c.e m.c.f m.c.g m.c.l = 0 := by
  simp only [okM, Bool.and_eq_true, chkC, beq_iff_eq] at h; exact h.1
theorem cfg_a1 {m : Mm} (h : okM m = true) : IntKind.wrap .i64 (m.c.a - 1) = m.c.a - 1 := by
  obtain ⟨⟨a1, a2⟩, _⟩ := chk_zero (cfg_ok h)
  rw [w64] <;> omega
theorem vers16 {v : Int} (h : uB v = true) : IntKind.wrap .u64 (v / 65536 + 1) = v / 65536 + 1 := by
  have := uB_iff.1 h
  rw [IntKind.wrap_u64]; omega
theorem uB_vers16 {v : Int} (h : uB v = true) : uB (v / 65536 + 1) = true := by
  have := uB_iff.1 h
  rw [uB_iff]; omega
theorem uB_16 {v : Int} (h : uB v = true) : uB (v / 65536) = true := uB_div h (by decide)
theorem w64_c (v : Int) : IntKind.wrap .i64 (v % 65536 - 1 + 1) = v % 65536 := by rw [IntKind.wrap_i64]; omega
theorem okW_line (x : Wk) (q : Int) : okW { x with line := q } = okW x := rfl
end Go.Sx.Pr

namespace Go.Sx.Pr
open Go Go.Sx Go.Proofs
set_option maxRecDepth 100000
end Go.Sx.Pr

/- The steps of one layer, program and document, against the pure model. -/
namespace Go.Sx.Pr
open Go Go.Sx Go.Sx.Md Go.Proofs
set_option maxRecDepth 100000
end Go.Sx.Pr

namespace Go.Sx.Pr
open Go Go.Sx Go.Proofs
set_option maxRecDepth 100000
/-- coatcheck/stack.sideOf -/
def C76 : CF := ⟨2, [(4, some (3, true))],
 .seq (.reg false [⟨some 3, .box 40 33 (.t 1), none, 0⟩,
   ⟨some 4, .newc 130 [.d (.v (.int .i64 0)), .d (.v (.nilFunc)), .d (.v (.int .i64 0))], none, 0⟩])
 (.seq (.seq (.reg false [⟨some 5, .fa 0 (.t 3), none, 0⟩,
   ⟨some 6, .ld 1 false (.t 5), none, 0⟩,
   ⟨some 7, .bin .lss (.t 6) (.c (.d (.v (.int .i64 20)))), none, 0⟩])
 (.cond 7 (.seq (.reg true [⟨some 8, .mv (.t 0), none, 0⟩,
     ⟨some 9, .nilc (.t 8), none, 1⟩,
     ⟨some 10, .fa 0 (.t 9), none, 3⟩,
     ⟨some 11, .ld 8 true (.t 10), none, 7⟩,
     ⟨some 12, .mkf (.func 100) [.t 11] [], none, 15⟩,
     ⟨some 13, .fa 19 (.t 3), none, 0⟩,
     ⟨some 14, .ld 1 false (.t 13), none, 32⟩,
     ⟨some 15, .bin .sub (.t 14) (.c (.d (.v (.int .i64 1)))), none, 96⟩,
     ⟨some 16, .bld [.d (.v (.int .i64 0)), .d (.v (.nilFunc)), .d (.v (.int .i64 0))] [(0, 1, .c (.d (.v (.int .i64 1)))), (1, 1, .t 12), (2, 1, .t 15)], none, 255⟩,
     ⟨none, .st 3 (.t 4) (.t 16), none, 511⟩])
   (.ret))
   (.skip)))
 (.seq (.reg true [⟨some 17, .mv (.t 0), none, 0⟩,
   ⟨some 18, .nilc (.t 17), none, 1⟩,
   ⟨some 19, .fa 0 (.t 18), none, 3⟩,
   ⟨some 20, .ld 8 true (.t 19), none, 7⟩,
   ⟨some 21, .mkf (.func 98) [.t 20] [], none, 15⟩,
   ⟨some 22, .fa 20 (.t 3), none, 0⟩,
   ⟨some 23, .ld 1 false (.t 22), none, 32⟩,
   ⟨some 24, .bin .sub (.t 23) (.c (.d (.v (.int .i64 1)))), none, 96⟩,
   ⟨some 25, .bld [.d (.v (.int .i64 0)), .d (.v (.nilFunc)), .d (.v (.int .i64 0))] [(0, 1, .c (.d (.v (.int .i64 2)))), (1, 1, .t 21), (2, 1, .t 24)], none, 255⟩,
   ⟨none, .st 3 (.t 4) (.t 25), none, 511⟩])
 (.ret)))⟩
theorem c76 : coF Try.prog Try.f107 = some C76 := by kernel_rfl
def A76 : Ann := { keep := [0, 1, 3, 4, 7], live := [] }
def E76 {Ω : Type} : Env Ω := econs 100 S117 (econs 98 S112c (enil))
theorem e76 : GoodE Try.prog E76 := GoodE.cons g117 (GoodE.cons g112c (GoodE.nil))
def S76 {Ω : Type} : Spec Ω := inl E76 A76 C76 false
theorem g76 : Good1 Try.prog 107 S76 := Good1.inl e76 mix Try.func107 (by kernel_rfl) c76 A76 false
/-- coatcheck/stack.Step$1 -/
def C77 : CF := ⟨2, [(3, some (33, true)), (4, none), (5, none)],
 .seq (.reg false [⟨some 3, .newc 40 [.d (.v (.int .i64 0)), .d (.v (.int .i64 0)), .d (.v (.int .u64 0)), .d (.v (.int .u64 0)), .d (.v (.int .i64 0)), .d (.v (.bool false)), .d (.v (.int .i64 0)), .d (.v (.int .i64 0)), .d (.v (.bool false)), .d (.v (.int .u64 0)), .d (.v (.slice none 0 0)), .d (.v (.int .u64 0)), .d (.v (.slice none 0 0)), .d (.v (.int .u64 0)), .d (.v (.slice none 0 0)), .d (.v (.int .u64 0)), .d (.v (.slice none 0 0)), .d (.v (.slice none 0 0)), .d (.v (.int .i64 0)), .d (.v (.int .i64 0)), .d (.v (.int .i64 0)), .d (.v (.int .i64 0)), .d (.v (.int .i64 0)), .d (.v (.int .u64 0)), .d (.v (.int .u64 0)), .d (.v (.int .u64 0)), .d (.v (.int .u64 0)), .d (.v (.int .u64 0)), .d (.v (.int .i64 0)), .d (.v (.slice none 0 0)), .d (.v (.int .u64 0)), .d (.v (.int .i64 0)), .d (.v (.bool false))], none, 0⟩,
   ⟨some 4, .mv (.c (.d (.v (.int .i64 0)))), none, 0⟩,
   ⟨some 5, .mv (.c (.d (.v (.bool false)))), none, 0⟩])
 (.seq (.reg false [⟨some 6, .fa 0 (.t 1), none, 0⟩,
   ⟨none, .st 1 (.t 6) (.c (.d (.v (.int .i64 0)))), none, 0⟩])
 (.seq (.reg false [⟨some 7, .ld 33 true (.t 1), none, 0⟩,
   ⟨some 8, .mv (.t 0), none, 0⟩,
   ⟨none, .st 33 (.t 3) (.t 7), none, 0⟩,
   ⟨some 4, .mv (.t 8), none, 0⟩,
   ⟨some 5, .mv (.c (.d (.v (.bool true)))), none, 0⟩])
 (.ret)))⟩
theorem c77 : coF Try.prog Try.f108 = some C77 := by kernel_rfl
def A77 : Ann := { keep := [0, 1, 3, 4, 5], live := [] }
def E77 {Ω : Type} : Env Ω := enil
theorem e77 : GoodE Try.prog E77 := GoodE.nil
def S77 {Ω : Type} : Spec Ω := inl E77 A77 C77 false
theorem g77 : Good1 Try.prog 108 S77 := Good1.inl e77 mix Try.func108 (by kernel_rfl) c77 A77 false
/-- coatcheck/stack.low -/
def C78 : CF := ⟨1, [(2, none)],
 .seq (.reg false [⟨some 2, .mv (.c (.d (.v (.int .u64 0)))), none, 0⟩])
 (.seq (.reg false [⟨some 3, .mv (.t 0), none, 0⟩,
   ⟨some 4, .conv .u32 (.t 3), none, 0⟩,
   ⟨some 5, .conv .u64 (.t 4), none, 0⟩,
   ⟨some 2, .mv (.t 5), none, 0⟩])
 (.ret))⟩
theorem c78 : coF Try.prog Try.f109 = some C78 := by kernel_rfl
def A78 : Ann := { keep := [0, 2], live := [] }
def E78 {Ω : Type} : Env Ω := enil
theorem e78 : GoodE Try.prog E78 := GoodE.nil
def S78 {Ω : Type} : Spec Ω := inl E78 A78 C78 false
theorem g78 : Good1 Try.prog 109 S78 := Good1.inl e78 mix Try.func109 (by kernel_rfl) c78 A78 false
/-- coatcheck/stack.above -/
def C79 : CF := ⟨2, [(4, none)],
 .seq (.reg false [⟨some 4, .mv (.c (.d (.v (.int .u64 0)))), none, 0⟩])
 (.seq (.reg false [⟨some 8, .mv (.t 0), none, 0⟩,
   ⟨some 9, .call (.c (.fn (.func 115) [] [])) [.t 8], none, 0⟩,
   ⟨some 7, .mv (.t 9), none, 0⟩,
   ⟨some 10, .ext 0 (.t 7), none, 0⟩,
   ⟨some 11, .ext 1 (.t 7), none, 0⟩,
   ⟨some 5, .mv (.t 10), none, 0⟩,
   ⟨some 6, .mv (.t 11), none, 0⟩])
 (.seq (.reg false [⟨some 12, .mv (.t 1), none, 0⟩,
   ⟨some 13, .mv (.t 6), none, 0⟩,
   ⟨some 14, .bin .add (.t 13) (.c (.d (.v (.int .u64 1)))), none, 0⟩,
   ⟨some 15, .call (.c (.fn (.func 97) [] [])) [.t 12, .t 14], none, 0⟩,
   ⟨some 4, .mv (.t 15), none, 0⟩])
 (.ret)))⟩
theorem c79 : coF Try.prog Try.f110 = some C79 := by kernel_rfl
def A79 : Ann := { keep := [0, 1, 4, 6], live := [] }
def E79 {Ω : Type} : Env Ω := econs 115 S118c (econs 97 S109c (enil))
theorem e79 : GoodE Try.prog E79 := GoodE.cons g118c (GoodE.cons g109c (GoodE.nil))
def S79 {Ω : Type} : Spec Ω := inl E79 A79 C79 false
theorem g79 : Good1 Try.prog 110 S79 := Good1.inl e79 mix Try.func110 (by kernel_rfl) c79 A79 false
def K45_1 : CC := .seq (.reg false [⟨some 157, .ld 33 true (.t 3), none, 0⟩,
   ⟨none, .st 33 (.t 4) (.t 157), none, 0⟩,
   ⟨some 5, .mv (.c (.d (.v (.int .i64 0)))), none, 0⟩,
   ⟨some 6, .mv (.c (.d (.v (.bool true)))), none, 0⟩])
 (.ret)
def K45_2 : CC := .seq (.reg false [⟨some 54, .fa 25 (.t 3), none, 0⟩,
   ⟨some 55, .ld 1 false (.t 54), none, 0⟩,
   ⟨some 56, .call (.c (.fn (.func 109) [] [])) [.t 55], none, 0⟩,
   ⟨some 57, .fa 23 (.t 3), none, 0⟩,
   ⟨none, .st 1 (.t 57) (.t 56), none, 0⟩])
 (.seq (.seq (.reg false [⟨some 58, .fa 23 (.t 3), none, 0⟩,
   ⟨some 59, .ld 1 false (.t 58), none, 0⟩,
   ⟨some 60, .eq .int false (.t 59) (.c (.d (.v (.int .u64 0)))), none, 0⟩])
 (.cond 60 (.seq (.reg false [⟨some 61, .mv (.t 8), none, 0⟩,
     ⟨some 62, .call (.t 61) [.c (.d (.v (.int .i64 2)))], none, 0⟩,
     ⟨some 63, .ext 0 (.t 62), none, 0⟩,
     ⟨some 64, .ext 1 (.t 62), none, 0⟩,
     ⟨some 65, .ext 2 (.t 62), none, 0⟩,
     ⟨none, .st 33 (.t 4) (.t 63), none, 0⟩,
     ⟨some 5, .mv (.t 64), none, 0⟩,
     ⟨some 6, .mv (.t 65), none, 0⟩])
   (.ret))
   (.skip)))
 (.reg false [⟨some 66, .fa 0 (.t 3), none, 0⟩,
   ⟨some 67, .ld 1 false (.t 66), none, 0⟩,
   ⟨some 68, .bin .add (.t 67) (.c (.d (.v (.int .i64 1)))), none, 0⟩,
   ⟨some 69, .fa 0 (.t 3), none, 0⟩,
   ⟨none, .st 1 (.t 69) (.t 68), none, 0⟩]))
def K45_3 : CC := .reg false [⟨some 49, .mv (.t 0), none, 0⟩,
   ⟨some 50, .fa 0 (.t 7), none, 0⟩,
   ⟨some 51, .ld 1 false (.t 50), none, 0⟩,
   ⟨some 52, .call (.c (.fn (.func 58) [] [])) [.t 49, .t 51], none, 0⟩,
   ⟨some 53, .fa 25 (.t 3), none, 0⟩,
   ⟨none, .st 1 (.t 53) (.t 52), none, 0⟩]
def K45_4 : CC := .seq (.reg false [⟨some 72, .mv (.t 0), none, 0⟩,
   ⟨some 73, .fa 1 (.t 7), none, 0⟩,
   ⟨some 74, .ld 1 false (.t 73), none, 0⟩,
   ⟨some 75, .fa 23 (.t 3), none, 0⟩,
   ⟨some 76, .ld 1 false (.t 75), none, 0⟩,
   ⟨some 77, .conv .i64 (.t 76), none, 0⟩,
   ⟨some 78, .bin .sub (.t 77) (.c (.d (.v (.int .i64 1)))), none, 0⟩,
   ⟨some 79, .call (.t 74) [.t 78], none, 0⟩,
   ⟨some 80, .call (.c (.fn (.func 58) [] [])) [.t 72, .t 79], none, 0⟩,
   ⟨some 81, .fa 24 (.t 3), none, 0⟩,
   ⟨none, .st 1 (.t 81) (.t 80), none, 0⟩])
 (.reg false [⟨some 82, .fa 0 (.t 3), none, 0⟩,
   ⟨some 83, .ld 1 false (.t 82), none, 0⟩,
   ⟨some 84, .bin .add (.t 83) (.c (.d (.v (.int .i64 1)))), none, 0⟩,
   ⟨some 85, .fa 0 (.t 3), none, 0⟩,
   ⟨none, .st 1 (.t 85) (.t 84), none, 0⟩])
def K45_5 : CC := .seq (.seq (.reg true [⟨some 88, .mv (.t 0), none, 0⟩,
   ⟨some 89, .fa 0 (.t 7), none, 0⟩,
   ⟨some 90, .ld 1 false (.t 89), none, 2⟩,
   ⟨some 91, .fa 25 (.t 3), none, 0⟩,
   ⟨some 92, .ld 1 false (.t 91), none, 8⟩,
   ⟨some 93, .fa 25 (.t 3), none, 0⟩,
   ⟨some 94, .ld 1 false (.t 93), none, 32⟩,
   ⟨some 95, .fa 24 (.t 3), none, 0⟩,
   ⟨some 96, .ld 1 false (.t 95), none, 128⟩,
   ⟨some 97, .call (.c (.fn (.func 109) [] [])) [.t 96], none, 384⟩,
   ⟨some 98, .conv .i64 (.t 97), none, 896⟩,
   ⟨some 99, .bin .sub (.t 98) (.c (.d (.v (.int .i64 1)))), none, 1920⟩,
   ⟨some 100, .call (.c (.fn (.func 110) [] [])) [.t 94, .t 99], none, 4064⟩,
   ⟨some 101, .call (.c (.fn (.func 60) [] [])) [.t 88, .t 90, .t 92, .t 100], none, 8191⟩])
 (.cond 101 (.seq (.reg false [⟨some 102, .mv (.t 8), none, 0⟩,
     ⟨some 103, .call (.t 102) [.c (.d (.v (.int .i64 1)))], none, 0⟩,
     ⟨some 104, .ext 0 (.t 103), none, 0⟩,
     ⟨some 105, .ext 1 (.t 103), none, 0⟩,
     ⟨some 106, .ext 2 (.t 103), none, 0⟩,
     ⟨none, .st 33 (.t 4) (.t 104), none, 0⟩,
     ⟨some 5, .mv (.t 105), none, 0⟩,
     ⟨some 6, .mv (.t 106), none, 0⟩])
   (.ret))
   (.skip)))
 (.reg false [⟨some 107, .mv (.t 9), none, 0⟩,
   ⟨some 108, .fa 0 (.t 3), none, 0⟩,
   ⟨none, .st 1 (.t 108) (.t 107), none, 0⟩])
def K45_6 : CC := .seq (.reg false [⟨some 111, .mv (.t 0), none, 0⟩,
   ⟨some 112, .fa 0 (.t 7), none, 0⟩,
   ⟨some 113, .ld 1 false (.t 112), none, 0⟩,
   ⟨some 114, .call (.c (.fn (.func 58) [] [])) [.t 111, .t 113], none, 0⟩,
   ⟨some 115, .fa 25 (.t 3), none, 0⟩,
   ⟨none, .st 1 (.t 115) (.t 114), none, 0⟩])
 (.reg false [⟨some 116, .fa 0 (.t 3), none, 0⟩,
   ⟨some 117, .ld 1 false (.t 116), none, 0⟩,
   ⟨some 118, .bin .add (.t 117) (.c (.d (.v (.int .i64 1)))), none, 0⟩,
   ⟨some 119, .fa 0 (.t 3), none, 0⟩,
   ⟨none, .st 1 (.t 119) (.t 118), none, 0⟩])
def K45_7 : CC := .seq (.reg true [⟨some 122, .mv (.t 0), none, 0⟩,
   ⟨some 123, .fa 1 (.t 7), none, 0⟩,
   ⟨some 124, .ld 1 false (.t 123), none, 2⟩,
   ⟨some 125, .fa 2 (.t 7), none, 0⟩,
   ⟨some 126, .ld 1 false (.t 125), none, 8⟩,
   ⟨some 127, .call (.t 124) [.t 126], none, 30⟩,
   ⟨some 128, .fa 25 (.t 3), none, 0⟩,
   ⟨some 129, .ld 1 false (.t 128), none, 64⟩,
   ⟨some 130, .call (.c (.fn (.func 109) [] [])) [.t 129], none, 254⟩,
   ⟨some 131, .call (.c (.fn (.func 13) [] [])) [.t 122, .t 127, .t 130], none, 511⟩])
 (.reg false [⟨some 132, .fa 0 (.t 3), none, 0⟩,
   ⟨some 133, .ld 1 false (.t 132), none, 0⟩,
   ⟨some 134, .bin .add (.t 133) (.c (.d (.v (.int .i64 1)))), none, 0⟩,
   ⟨some 135, .fa 0 (.t 3), none, 0⟩,
   ⟨none, .st 1 (.t 135) (.t 134), none, 0⟩])
def K45_8 : CC := .seq (.reg false [⟨some 137, .eq .int false (.t 46) (.c (.d (.v (.int .i64 5)))), none, 0⟩,
   ⟨some 136, .mv (.t 137), none, 0⟩])
 (.cond 136 (.seq (.seq (.reg true [⟨some 138, .mv (.t 0), none, 0⟩,
     ⟨some 139, .fa 0 (.t 7), none, 0⟩,
     ⟨some 140, .ld 1 false (.t 139), none, 2⟩,
     ⟨some 141, .fa 25 (.t 3), none, 0⟩,
     ⟨some 142, .ld 1 false (.t 141), none, 8⟩,
     ⟨some 143, .fa 25 (.t 3), none, 0⟩,
     ⟨some 144, .ld 1 false (.t 143), none, 32⟩,
     ⟨some 145, .fa 2 (.t 7), none, 0⟩,
     ⟨some 146, .ld 1 false (.t 145), none, 128⟩,
     ⟨some 147, .call (.c (.fn (.func 110) [] [])) [.t 144, .t 146], none, 480⟩,
     ⟨some 148, .call (.c (.fn (.func 60) [] [])) [.t 138, .t 140, .t 142, .t 147], none, 1023⟩])
   (.cond 148 (.seq (.reg false [⟨some 149, .mv (.t 8), none, 0⟩,
       ⟨some 150, .call (.t 149) [.c (.d (.v (.int .i64 1)))], none, 0⟩,
       ⟨some 151, .ext 0 (.t 150), none, 0⟩,
       ⟨some 152, .ext 1 (.t 150), none, 0⟩,
       ⟨some 153, .ext 2 (.t 150), none, 0⟩,
       ⟨none, .st 33 (.t 4) (.t 151), none, 0⟩,
       ⟨some 5, .mv (.t 152), none, 0⟩,
       ⟨some 6, .mv (.t 153), none, 0⟩])
     (.ret))
     (.skip)))
   (.reg false [⟨some 154, .mv (.t 9), none, 0⟩,
     ⟨some 155, .bin .add (.t 154) (.c (.d (.v (.int .i64 3)))), none, 0⟩,
     ⟨some 156, .fa 0 (.t 3), none, 0⟩,
     ⟨none, .st 1 (.t 156) (.t 155), none, 0⟩]))
   (.skip))
def K45_9 : CC := .reg false [⟨some 121, .eq .int false (.t 46) (.c (.d (.v (.int .i64 4)))), none, 0⟩,
   ⟨some 120, .mv (.t 121), none, 0⟩]
def K45_10 : CC := .reg false [⟨some 110, .eq .int false (.t 46) (.c (.d (.v (.int .i64 3)))), none, 0⟩,
   ⟨some 109, .mv (.t 110), none, 0⟩]
def K45_11 : CC := .reg false [⟨some 87, .eq .int false (.t 46) (.c (.d (.v (.int .i64 2)))), none, 0⟩,
   ⟨some 86, .mv (.t 87), none, 0⟩]
def K45_12 : CC := .reg false [⟨some 71, .eq .int false (.t 46) (.c (.d (.v (.int .i64 1)))), none, 0⟩,
   ⟨some 70, .mv (.t 71), none, 0⟩]
def K45_13 : CC := .reg false [⟨some 48, .eq .int false (.t 46) (.c (.d (.v (.int .i64 0)))), none, 0⟩,
   ⟨some 47, .mv (.t 48), none, 0⟩]
def K45_14 : CC := .reg false [⟨some 43, .fa 0 (.t 3), none, 0⟩,
   ⟨some 44, .ld 1 false (.t 43), none, 0⟩,
   ⟨some 45, .mv (.t 9), none, 0⟩,
   ⟨some 46, .bin .sub (.t 44) (.t 45), none, 0⟩]
def K45_15 : CC := .reg false [⟨some 39, .fa 0 (.t 3), none, 0⟩,
   ⟨some 40, .ld 1 false (.t 39), none, 0⟩,
   ⟨some 41, .bin .quo (.t 40) (.c (.d (.v (.int .i64 10)))), none, 0⟩,
   ⟨some 42, .bin .mul (.t 41) (.c (.d (.v (.int .i64 10)))), none, 0⟩,
   ⟨some 9, .mv (.t 42), none, 0⟩]
def K45_16 : CC := .reg false [⟨some 38, .mkf (.func 108) [] [.t 3], none, 0⟩,
   ⟨some 8, .mv (.t 38), none, 0⟩]
def K45_17 : CC := .reg false [⟨some 35, .mv (.t 0), none, 0⟩,
   ⟨some 36, .ld 33 true (.t 3), none, 0⟩,
   ⟨some 37, .call (.c (.fn (.func 107) [] [])) [.t 35, .t 36], none, 0⟩,
   ⟨some 7, .newc 130 [.d (.v (.int .i64 0)), .d (.v (.nilFunc)), .d (.v (.int .i64 0))], none, 0⟩,
   ⟨none, .st 3 (.t 7) (.t 37), none, 0⟩]
def K45_18 : CC := .reg false [⟨some 33, .mv (.t 0), none, 0⟩,
   ⟨some 34, .call (.c (.fn (.func 52) [] [])) [.t 33], none, 0⟩]
def K45_19 : CC := .cond 31 (.seq (.reg false [⟨some 32, .ld 33 true (.t 3), none, 0⟩,
     ⟨none, .st 33 (.t 4) (.t 32), none, 0⟩,
     ⟨some 5, .mv (.c (.d (.v (.int .i64 0)))), none, 0⟩,
     ⟨some 6, .mv (.c (.d (.v (.bool false)))), none, 0⟩])
   (.ret))
   (.skip)
def K45_20 : CC := .reg false [⟨some 10, .mv (.t 0), none, 0⟩,
   ⟨some 11, .eq .ptr false (.t 10) (.c (.d (.v (.pointer none)))), none, 0⟩,
   ⟨some 12, .mv (.t 11), none, 0⟩,
   ⟨some 13, .fa 0 (.t 3), some (12, false), 0⟩,
   ⟨some 14, .ld 1 false (.t 13), some (12, false), 0⟩,
   ⟨some 15, .bin .lss (.t 14) (.c (.d (.v (.int .i64 10)))), some (12, false), 0⟩,
   ⟨some 16, .pick (.t 12) (.c (.d (.v (.bool true)))) (.t 15), none, 0⟩,
   ⟨some 17, .mv (.t 16), none, 0⟩,
   ⟨some 18, .fa 0 (.t 3), some (17, false), 0⟩,
   ⟨some 19, .ld 1 false (.t 18), some (17, false), 0⟩,
   ⟨some 20, .bin .gtr (.t 19) (.c (.d (.v (.int .i64 25)))), some (17, false), 0⟩,
   ⟨some 21, .pick (.t 17) (.c (.d (.v (.bool true)))) (.t 20), none, 0⟩,
   ⟨some 22, .mv (.t 21), none, 0⟩,
   ⟨some 23, .fa 0 (.t 3), some (22, false), 0⟩,
   ⟨some 24, .ld 1 false (.t 23), some (22, false), 0⟩,
   ⟨some 25, .bin .gtr (.t 24) (.c (.d (.v (.int .i64 15)))), some (22, false), 0⟩,
   ⟨some 26, .mv (.t 25), some (22, false), 0⟩,
   ⟨some 27, .fa 0 (.t 3), some (26, true), 0⟩,
   ⟨some 28, .ld 1 false (.t 27), some (26, true), 0⟩,
   ⟨some 29, .bin .lss (.t 28) (.c (.d (.v (.int .i64 20)))), some (26, true), 0⟩,
   ⟨some 30, .pick (.t 26) (.t 29) (.c (.d (.v (.bool false)))), some (22, false), 0⟩,
   ⟨some 31, .pick (.t 22) (.c (.d (.v (.bool true)))) (.t 30), none, 0⟩]
def K45_21 : CC := .reg false [⟨some 3, .box 40 33 (.t 1), none, 0⟩,
   ⟨some 4, .newc 40 [.d (.v (.int .i64 0)), .d (.v (.int .i64 0)), .d (.v (.int .u64 0)), .d (.v (.int .u64 0)), .d (.v (.int .i64 0)), .d (.v (.bool false)), .d (.v (.int .i64 0)), .d (.v (.int .i64 0)), .d (.v (.bool false)), .d (.v (.int .u64 0)), .d (.v (.slice none 0 0)), .d (.v (.int .u64 0)), .d (.v (.slice none 0 0)), .d (.v (.int .u64 0)), .d (.v (.slice none 0 0)), .d (.v (.int .u64 0)), .d (.v (.slice none 0 0)), .d (.v (.slice none 0 0)), .d (.v (.int .i64 0)), .d (.v (.int .i64 0)), .d (.v (.int .i64 0)), .d (.v (.int .i64 0)), .d (.v (.int .i64 0)), .d (.v (.int .u64 0)), .d (.v (.int .u64 0)), .d (.v (.int .u64 0)), .d (.v (.int .u64 0)), .d (.v (.int .u64 0)), .d (.v (.int .i64 0)), .d (.v (.slice none 0 0)), .d (.v (.int .u64 0)), .d (.v (.int .i64 0)), .d (.v (.bool false))], none, 0⟩,
   ⟨some 5, .mv (.c (.d (.v (.int .i64 0)))), none, 0⟩,
   ⟨some 6, .mv (.c (.d (.v (.bool false)))), none, 0⟩]
/-- coatcheck/stack.Step -/
def C45 : CF := ⟨2, [(4, some (33, true)), (5, none), (6, none)],
 .seq K45_21 (.seq (.seq K45_20 K45_19) (.seq K45_18 (.seq K45_17 (.seq K45_16 (.seq K45_15 (.seq (.seq K45_14 (.block 0 (.seq K45_13 (.cond 47 (.seq K45_3 K45_2) (.seq K45_12 (.cond 70 K45_4 (.seq K45_11 (.cond 86 K45_5 (.seq K45_10 (.cond 109 K45_6 (.seq K45_9 (.cond 120 K45_7 K45_8)))))))))))) K45_1))))))⟩
theorem c45 : coF Try.prog Try.f92 = some C45 := by kernel_rfl
def A45 : Ann := { keep := [0, 1, 3, 4, 5, 6, 7, 8, 9, 31, 46, 47, 60, 70, 86, 101, 109, 120, 136, 148], live := [] }
def E45 {Ω : Type} : Env Ω := econs 13 S23m (econs 52 S29m (econs 107 S76 (econs 108 S77 (econs 58 S21m (econs 109 S78 (econs 60 S25m (econs 110 S79 (econs 100 S117 (econs 98 S112c (enil))))))))))
theorem e45 : GoodE Try.prog E45 := GoodE.cons g23m (GoodE.cons g29m (GoodE.cons g76 (GoodE.cons g77 (GoodE.cons g21m (GoodE.cons g78 (GoodE.cons g25m (GoodE.cons g79 (GoodE.cons g117 (GoodE.cons g112c (GoodE.nil))))))))))
end Go.Sx.Pr
