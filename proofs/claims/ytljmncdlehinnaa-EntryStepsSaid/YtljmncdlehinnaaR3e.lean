/- Packing of entries and tickets: what both layers' functions answer. -/
import Derived.Test.YtljmncdlehinnaaR7
import Derived.Test.YtljmncdlehinnaaR2e
set_option linter.unusedVariables false
set_option linter.unusedSimpArgs false
namespace Go.Sx.Pr
open Go Go.Sx Go.Proofs
set_option maxRecDepth 100000
theorem n1054 {Ω : Type} (K : SV → SH → Option Ω) (w : Int) :
    sxFn E1054 A1054 C1054 [U w] [] K =
    K (.tup [U (shr .u64 w 20), I (IntKind.wrap .i64 (IntKind.wrap .i64 (IntKind.wrap .u16 (shr .u64 w 4)) - 1)), I (IntKind.wrap .i64 (shr .u8 (shl .u8 (IntKind.wrap .u8 w) 4) 4))]) [] := by kernel_rfl
theorem n1070 {Ω : Type} (K : SV → SH → Option Ω) (e g : Int) :
    sxFn E1070 A1070 C1070 [I e, U g] [] K =
    K (U (bor .u64 (shl .u64 g 16) (IntKind.wrap .u64 (IntKind.wrap .u16 (IntKind.wrap .i64 (e + 1)))))) [] := by kernel_rfl
theorem n1068 {Ω : Type} (K : SV → SH → Option Ω) (w : Int) :
    sxFn E1068 A1068 C1068 [U w] [] K =
    K (.tup [I (IntKind.wrap .i64 (IntKind.wrap .i64 (IntKind.wrap .u16 w) - 1)), U (shr .u64 w 16)]) [] := by kernel_rfl
theorem n1036 {Ω : Type} (K : SV → SH → Option Ω) (w : Int) :
    sxFn E1036 A1036 C1036 [U w] [] K =
    br (decide (0 ≤ IntKind.wrap .u64 (Int.tdiv w 16)) && true) (K (.tup [U (IntKind.wrap .u64 (Int.tdiv w 1048576)), I (IntKind.wrap .i64 (IntKind.wrap .i64 (IntKind.wrap .u64 (Int.tdiv w 16) % 65536) - 1)), I (IntKind.wrap .i64 (Int.tmod w 16))]) []) none := by kernel_rfl
theorem n1066 {Ω : Type} (K : SV → SH → Option Ω) (e g : Int) :
    sxFn E1066 A1066 C1066 [I e, U g] [] K =
    br (decide (0 ≤ g) && true) (br (decide (0 ≤ IntKind.wrap .u64 (IntKind.wrap .u64 e + 1)) && true) (K (U (IntKind.wrap .u64 (IntKind.wrap .u64 (g % 281474976710656 * 65536) + IntKind.wrap .u64 (IntKind.wrap .u64 e + 1) % 65536))) []) none) none := by kernel_rfl
theorem n1035 {Ω : Type} (K : SV → SH → Option Ω) (w : Int) :
    sxFn E1035 A1035 C1035 [U w] [] K =
    br (decide (0 ≤ w) && true) (K (.tup [I (IntKind.wrap .i64 (IntKind.wrap .i64 (w % 65536) - 1)), U (IntKind.wrap .u64 (Int.tdiv w 65536))]) []) none := by kernel_rfl


theorem v1054 {w : Int} (hw : 0 ≤ w ∧ w ≤ 18446744073709551615) : sxFn E1054 A1054 C1054 [U w] [] KS = some (.tup [U (w / 1048576), I (w / 16 % 65536 - 1), I (w % 16)], []) := by
  rw [n1054]
  rw [sh20]
  rw [sh4]
  rw [low4]
  rw [show IntKind.wrap .i64 (IntKind.wrap .i64 (IntKind.wrap .u16 (w / 16)) - 1) = w / 16 % 65536 - 1 by simp only [IntKind.wrap_u64, IntKind.wrap_i64, IntKind.wrap_u32, IntKind.wrap_u16, pHead, pEntry, pAnn, pSlab, pTicket, cond_true, cond_false]; omega]
  rw [show IntKind.wrap .i64 (w % 16) = w % 16 by simp only [IntKind.wrap_u64, IntKind.wrap_i64, IntKind.wrap_u32, IntKind.wrap_u16, pHead, pEntry, pAnn, pSlab, pTicket, cond_true, cond_false]; omega]
def FP1054 : List (List Int) → Option (Bool × SV × SH)
  | [[w]] => some (uB w, .tup [U (w / 1048576), I (w / 16 % 65536 - 1), I (w % 16)], [])
  | _ => none
def S1054c {Ω : Type} : Spec Ω := conSpec [.i .u64] FP1054
theorem g1054c : Good1 Try.prog 73 S1054c := conGood Try.func73 (by kernel_rfl) c1054 e1054 mix (A := A1054) fun L r hr hl hF => by
  obtain ⟨q0, l0, rfl, z0, hl1⟩ := lenAs_cons hl
  obtain ⟨w, rfl⟩ := one_of' z0
  have hz := lenAs_nil hl1
  subst hz
  simp only [FP1054, Option.some.injEq, Prod.mk.injEq, Bool.and_eq_true, uB_iff] at hF
  obtain ⟨hu, rfl, rfl⟩ := hF
  exact ⟨⟨trivial, trivial, trivial, trivial⟩, trivial, _, trim_none rfl _, v1054 hu⟩
theorem v1070 {e g : Int} (hg : 0 ≤ g ∧ g ≤ 18446744073709551615) : sxFn E1070 A1070 C1070 [I e, U g] [] KS = some (U (pTicket e g), []) := by
  rw [n1070]
  rw [bTicket]
def FP1070 : List (List Int) → Option (Bool × SV × SH)
  | [[e], [g]] => some (uB g, U (pTicket e g), [])
  | _ => none
def S1070c {Ω : Type} : Spec Ω := conSpec [.i .i64, .i .u64] FP1070
theorem g1070c : Good1 Try.prog 75 S1070c := conGood Try.func75 (by kernel_rfl) c1070 e1070 mix (A := A1070) fun L r hr hl hF => by
  obtain ⟨q0, l0, rfl, z0, hl1⟩ := lenAs_cons hl
  obtain ⟨e, rfl⟩ := one_of' z0
  obtain ⟨q1, l1, rfl, z1, hl2⟩ := lenAs_cons hl1
  obtain ⟨g, rfl⟩ := one_of' z1
  have hz := lenAs_nil hl2
  subst hz
  simp only [FP1070, Option.some.injEq, Prod.mk.injEq, Bool.and_eq_true, uB_iff] at hF
  obtain ⟨hu, rfl, rfl⟩ := hF
  exact ⟨trivial, trivial, _, trim_none rfl _, v1070 hu⟩
theorem v1068 {w : Int} (hw : 0 ≤ w ∧ w ≤ 18446744073709551615) : sxFn E1068 A1068 C1068 [U w] [] KS = some (.tup [I (w % 65536 - 1), U (w / 65536)], []) := by
  rw [n1068]
  rw [sh16]
  rw [show IntKind.wrap .i64 (IntKind.wrap .i64 (IntKind.wrap .u16 w) - 1) = w % 65536 - 1 by simp only [IntKind.wrap_u64, IntKind.wrap_i64, IntKind.wrap_u32, IntKind.wrap_u16, pHead, pEntry, pAnn, pSlab, pTicket, cond_true, cond_false]; omega]
def FP1068 : List (List Int) → Option (Bool × SV × SH)
  | [[w]] => some (uB w, .tup [I (w % 65536 - 1), U (w / 65536)], [])
  | _ => none
def S1068c {Ω : Type} : Spec Ω := conSpec [.i .u64] FP1068
theorem g1068c : Good1 Try.prog 71 S1068c := conGood Try.func71 (by kernel_rfl) c1068 e1068 mix (A := A1068) fun L r hr hl hF => by
  obtain ⟨q0, l0, rfl, z0, hl1⟩ := lenAs_cons hl
  obtain ⟨w, rfl⟩ := one_of' z0
  have hz := lenAs_nil hl1
  subst hz
  simp only [FP1068, Option.some.injEq, Prod.mk.injEq, Bool.and_eq_true, uB_iff] at hF
  obtain ⟨hu, rfl, rfl⟩ := hF
  exact ⟨⟨trivial, trivial, trivial⟩, trivial, _, trim_none rfl _, v1068 hu⟩
theorem v1036 {w : Int} (hw : 0 ≤ w ∧ w ≤ 18446744073709551615) : sxFn E1036 A1036 C1036 [U w] [] KS = some (.tup [U (w / 1048576), I (w / 16 % 65536 - 1), I (w % 16)], []) := by
  rw [n1036]
  rw [d16 hw.1]
  rw [d16 hw.1]
  rw [m16 hw.1]
  rw [decide_eq_true (show 0 ≤ IntKind.wrap .u64 (w / 16) by simp only [IntKind.wrap_u64]; omega), Bool.true_and, br_t]
  rw [show IntKind.wrap .u64 (w / 1048576) = w / 1048576 by simp only [IntKind.wrap_u64, IntKind.wrap_i64, IntKind.wrap_u32, IntKind.wrap_u16, pHead, pEntry, pAnn, pSlab, pTicket, cond_true, cond_false]; omega]
  rw [show IntKind.wrap .i64 (IntKind.wrap .i64 (IntKind.wrap .u64 (w / 16) % 65536) - 1) = w / 16 % 65536 - 1 by simp only [IntKind.wrap_u64, IntKind.wrap_i64, IntKind.wrap_u32, IntKind.wrap_u16, pHead, pEntry, pAnn, pSlab, pTicket, cond_true, cond_false]; omega]
  rw [show IntKind.wrap .i64 (w % 16) = w % 16 by simp only [IntKind.wrap_u64, IntKind.wrap_i64, IntKind.wrap_u32, IntKind.wrap_u16, pHead, pEntry, pAnn, pSlab, pTicket, cond_true, cond_false]; omega]
def FP1036 : List (List Int) → Option (Bool × SV × SH)
  | [[w]] => some (uB w, .tup [U (w / 1048576), I (w / 16 % 65536 - 1), I (w % 16)], [])
  | _ => none
def S1036c {Ω : Type} : Spec Ω := conSpec [.i .u64] FP1036
theorem g1036c : Good1 Try.prog 38 S1036c := conGood Try.func38 (by kernel_rfl) c1036 e1036 mix (A := A1036) fun L r hr hl hF => by
  obtain ⟨q0, l0, rfl, z0, hl1⟩ := lenAs_cons hl
  obtain ⟨w, rfl⟩ := one_of' z0
  have hz := lenAs_nil hl1
  subst hz
  simp only [FP1036, Option.some.injEq, Prod.mk.injEq, Bool.and_eq_true, uB_iff] at hF
  obtain ⟨hu, rfl, rfl⟩ := hF
  exact ⟨⟨trivial, trivial, trivial, trivial⟩, trivial, _, trim_none rfl _, v1036 hu⟩
theorem v1066 {e g : Int} (hg : 0 ≤ g ∧ g ≤ 18446744073709551615) : sxFn E1066 A1066 C1066 [I e, U g] [] KS = some (U (pTicket e g), []) := by
  rw [n1066]
  rw [decide_eq_true (show 0 ≤ g by omega), Bool.true_and, br_t]
  rw [decide_eq_true (show 0 ≤ IntKind.wrap .u64 (IntKind.wrap .u64 e + 1) by simp only [IntKind.wrap_u64]; omega), Bool.true_and, br_t]
  rw [show IntKind.wrap .u64 (IntKind.wrap .u64 (g % 281474976710656 * 65536) + IntKind.wrap .u64 (IntKind.wrap .u64 e + 1) % 65536) = pTicket e g by simp only [IntKind.wrap_u64, IntKind.wrap_i64, IntKind.wrap_u32, IntKind.wrap_u16, pHead, pEntry, pAnn, pSlab, pTicket, cond_true, cond_false]; omega]
def FP1066 : List (List Int) → Option (Bool × SV × SH)
  | [[e], [g]] => some (uB g, U (pTicket e g), [])
  | _ => none
def S1066c {Ω : Type} : Spec Ω := conSpec [.i .i64, .i .u64] FP1066
theorem g1066c : Good1 Try.prog 68 S1066c := conGood Try.func68 (by kernel_rfl) c1066 e1066 mix (A := A1066) fun L r hr hl hF => by
  obtain ⟨q0, l0, rfl, z0, hl1⟩ := lenAs_cons hl
  obtain ⟨e, rfl⟩ := one_of' z0
  obtain ⟨q1, l1, rfl, z1, hl2⟩ := lenAs_cons hl1
  obtain ⟨g, rfl⟩ := one_of' z1
  have hz := lenAs_nil hl2
  subst hz
  simp only [FP1066, Option.some.injEq, Prod.mk.injEq, Bool.and_eq_true, uB_iff] at hF
  obtain ⟨hu, rfl, rfl⟩ := hF
  exact ⟨trivial, trivial, _, trim_none rfl _, v1066 hu⟩
theorem v1035 {w : Int} (hw : 0 ≤ w ∧ w ≤ 18446744073709551615) : sxFn E1035 A1035 C1035 [U w] [] KS = some (.tup [I (w % 65536 - 1), U (w / 65536)], []) := by
  rw [n1035]
  rw [decide_eq_true (show 0 ≤ w by omega), Bool.true_and, br_t]
  rw [d16 hw.1]
  rw [show IntKind.wrap .i64 (IntKind.wrap .i64 (w % 65536) - 1) = w % 65536 - 1 by simp only [IntKind.wrap_u64, IntKind.wrap_i64, IntKind.wrap_u32, IntKind.wrap_u16, pHead, pEntry, pAnn, pSlab, pTicket, cond_true, cond_false]; omega]
  rw [show IntKind.wrap .u64 (w / 65536) = w / 65536 by simp only [IntKind.wrap_u64, IntKind.wrap_i64, IntKind.wrap_u32, IntKind.wrap_u16, pHead, pEntry, pAnn, pSlab, pTicket, cond_true, cond_false]; omega]
def FP1035 : List (List Int) → Option (Bool × SV × SH)
  | [[w]] => some (uB w, .tup [I (w % 65536 - 1), U (w / 65536)], [])
  | _ => none
def S1035c {Ω : Type} : Spec Ω := conSpec [.i .u64] FP1035
theorem g1035c : Good1 Try.prog 37 S1035c := conGood Try.func37 (by kernel_rfl) c1035 e1035 mix (A := A1035) fun L r hr hl hF => by
  obtain ⟨q0, l0, rfl, z0, hl1⟩ := lenAs_cons hl
  obtain ⟨w, rfl⟩ := one_of' z0
  have hz := lenAs_nil hl1
  subst hz
  simp only [FP1035, Option.some.injEq, Prod.mk.injEq, Bool.and_eq_true, uB_iff] at hF
  obtain ⟨hu, rfl, rfl⟩ := hF
  exact ⟨⟨trivial, trivial, trivial⟩, trivial, _, trim_none rfl _, v1035 hu⟩
end Go.Sx.Pr
