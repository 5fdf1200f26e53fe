/- Pieces of the code of functions, compiled for the symbolic interpreter, each checked against the program; no conditions. -/
import Derived.Test.YtljmncdlehinnaaP42
import Derived.Test.YtljmncdlehinnaaRows
import Derived.KernelRfl
import Derived.Test.YtljmncdlehinnaaSxLoop
import Derived.Test.YtljmncdlehinnaaP42
set_option linter.all false
set_option linter.unusedVariables false
set_option linter.unusedSimpArgs false
set_option linter.unnecessarySimpa false
namespace Go.Sx.Pr
open Go Go.Sx Go.Proofs
set_option maxRecDepth 100000
/-- coatcheck/plan.New -/
def C63 : CF := ⟨1, [(2, some (8, true)), (3, none)],
 .seq (.reg false [⟨some 1, .box 26 8 (.t 0), none, 0⟩,
   ⟨some 2, .newc 75 [.d (.v (.int .i64 0)), .d (.v (.int .i64 0)), .d (.v (.int .i64 0)), .d (.v (.int .i64 0)), .d (.v (.int .i64 0)), .d (.v (.int .i64 0)), .d (.v (.int .i64 0)), .d (.v (.int .u64 0))], none, 0⟩,
   ⟨some 3, .mv (.c (.d (.v (.int .i64 0)))), none, 0⟩])
 (.seq (.seq (.reg false [⟨some 5, .ld 8 true (.t 1), none, 0⟩,
   ⟨some 6, .call (.c (.fn (.func 88) [] [])) [.t 5], none, 0⟩,
   ⟨some 4, .mv (.t 6), none, 0⟩])
 (.seq (.reg false [⟨some 7, .mv (.t 4), none, 0⟩,
   ⟨some 8, .eq .int true (.t 7) (.c (.d (.v (.int .i64 0)))), none, 0⟩])
 (.cond 8 (.seq (.reg false [⟨some 9, .bld [.d (.v (.int .i64 0)), .d (.v (.int .i64 0)), .d (.v (.int .i64 0)), .d (.v (.int .i64 0)), .d (.v (.int .i64 0)), .d (.v (.int .i64 0)), .d (.v (.int .i64 0)), .d (.v (.int .u64 0))] [], none, 0⟩,
     ⟨some 10, .mv (.t 4), none, 0⟩,
     ⟨none, .st 8 (.t 2) (.t 9), none, 0⟩,
     ⟨some 3, .mv (.t 10), none, 0⟩])
   (.ret))
   (.skip))))
 (.seq (.reg false [⟨some 11, .ld 8 true (.t 1), none, 0⟩,
   ⟨some 12, .bld [.d (.v (.int .i64 0)), .d (.v (.int .i64 0)), .d (.v (.int .i64 0)), .d (.v (.int .i64 0)), .d (.v (.int .i64 0)), .d (.v (.int .i64 0)), .d (.v (.int .i64 0)), .d (.v (.int .u64 0))] [(0, 8, .t 11)], none, 0⟩,
   ⟨none, .st 8 (.t 2) (.t 12), none, 0⟩,
   ⟨some 3, .mv (.c (.d (.v (.int .i64 0)))), none, 0⟩])
 (.ret)))⟩
theorem c63 : coF Try.prog Try.f85 = some C63 := by kernel_rfl
def A63 : Ann := { keep := [0, 1, 2, 3, 4, 8], live := [] }
def E63 {Ω : Type} : Env Ω := econs 88 S106 (enil)
theorem e63 : GoodE Try.prog E63 := GoodE.cons g106 (GoodE.nil)
def S63 {Ω : Type} : Spec Ω := inl E63 A63 C63 false
theorem g63 : Good1 Try.prog 85 S63 := Good1.inl e63 mix Try.func85 (by kernel_rfl) c63 A63 false
/-- coatcheck/pack.Head -/
def C109 : CF := ⟨2, [(4, none)],
 .seq (.reg false [⟨some 4, .mv (.c (.d (.v (.int .u64 0)))), none, 0⟩])
 (.seq (.reg false [⟨some 5, .mv (.t 1), none, 0⟩,
   ⟨some 6, .bin .shl (.t 5) (.c (.d (.v (.int .u64 32)))), none, 0⟩,
   ⟨some 7, .mv (.t 0), none, 0⟩,
   ⟨some 8, .bin .add (.t 7) (.c (.d (.v (.int .i64 1)))), none, 0⟩,
   ⟨some 9, .conv .u32 (.t 8), none, 0⟩,
   ⟨some 10, .conv .u64 (.t 9), none, 0⟩,
   ⟨some 11, .bin .or (.t 6) (.t 10), none, 0⟩,
   ⟨some 4, .mv (.t 11), none, 0⟩])
 (.ret))⟩
theorem c109 : coF Try.prog Try.f97 = some C109 := by kernel_rfl
def A109 : Ann := { keep := [0, 1, 4], live := [] }
def E109 {Ω : Type} : Env Ω := enil
theorem e109 : GoodE Try.prog E109 := GoodE.nil
def S109 {Ω : Type} : Spec Ω := inl E109 A109 C109 false
theorem g109 : Good1 Try.prog 97 S109 := Good1.inl e109 mix Try.func97 (by kernel_rfl) c109 A109 false
/-- coatcheck/pack.Entry -/
def C110 : CF := ⟨3, [(6, none)],
 .seq (.reg false [⟨some 6, .mv (.c (.d (.v (.int .u64 0)))), none, 0⟩])
 (.seq (.reg false [⟨some 7, .mv (.t 0), none, 0⟩,
   ⟨some 8, .bin .shl (.t 7) (.c (.d (.v (.int .u64 20)))), none, 0⟩,
   ⟨some 9, .mv (.t 1), none, 0⟩,
   ⟨some 10, .bin .add (.t 9) (.c (.d (.v (.int .i64 1)))), none, 0⟩,
   ⟨some 11, .conv .u16 (.t 10), none, 0⟩,
   ⟨some 12, .conv .u64 (.t 11), none, 0⟩,
   ⟨some 13, .bin .shl (.t 12) (.c (.d (.v (.int .u64 4)))), none, 0⟩,
   ⟨some 14, .bin .or (.t 8) (.t 13), none, 0⟩,
   ⟨some 15, .mv (.t 2), none, 0⟩,
   ⟨some 16, .conv .u8 (.t 15), none, 0⟩,
   ⟨some 17, .bin .shl (.t 16) (.c (.d (.v (.int .u64 4)))), none, 0⟩,
   ⟨some 18, .bin .shr (.t 17) (.c (.d (.v (.int .u64 4)))), none, 0⟩,
   ⟨some 19, .conv .u64 (.t 18), none, 0⟩,
   ⟨some 20, .bin .or (.t 14) (.t 19), none, 0⟩,
   ⟨some 6, .mv (.t 20), none, 0⟩])
 (.ret))⟩
theorem c110 : coF Try.prog Try.f74 = some C110 := by kernel_rfl
def A110 : Ann := { keep := [0, 1, 2, 6], live := [] }
def E110 {Ω : Type} : Env Ω := enil
theorem e110 : GoodE Try.prog E110 := GoodE.nil
def S110 {Ω : Type} : Spec Ω := inl E110 A110 C110 false
theorem g110 : Good1 Try.prog 74 S110 := Good1.inl e110 mix Try.func74 (by kernel_rfl) c110 A110 false
/-- (coatcheck/plan.Plan).at -/
def C122 : CF := ⟨5, [(10, none)],
 .seq (.reg false [⟨some 5, .box 75 8 (.t 0), none, 0⟩,
   ⟨some 10, .mv (.c (.d (.v (.int .i64 0)))), none, 0⟩])
 (.seq (.seq (.reg false [⟨some 11, .mv (.t 2), none, 0⟩,
   ⟨some 12, .bin .lss (.t 11) (.c (.d (.v (.int .i64 0)))), none, 0⟩,
   ⟨some 13, .mv (.t 12), none, 0⟩,
   ⟨some 14, .mv (.t 2), some (13, false), 0⟩,
   ⟨some 15, .mv (.t 3), some (13, false), 0⟩,
   ⟨some 16, .bin .geq (.t 14) (.t 15), some (13, false), 0⟩,
   ⟨some 17, .pick (.t 13) (.c (.d (.v (.bool true)))) (.t 16), none, 0⟩,
   ⟨some 18, .mv (.t 17), none, 0⟩,
   ⟨some 19, .fa 0 (.t 5), some (18, false), 0⟩,
   ⟨some 20, .ld 8 true (.t 19), some (18, false), 0⟩,
   ⟨some 21, .call (.c (.fn (.func 88) [] [])) [.t 20], some (18, false), 0⟩,
   ⟨some 22, .eq .int true (.t 21) (.c (.d (.v (.int .i64 0)))), some (18, false), 0⟩,
   ⟨some 23, .pick (.t 18) (.c (.d (.v (.bool true)))) (.t 22), none, 0⟩])
 (.cond 23 (.seq (.reg false [⟨some 10, .mv (.c (.d (.v (.int .i64 (-1))))), none, 0⟩])
   (.ret))
   (.skip)))
 (.seq (.reg false [⟨some 24, .mv (.t 1), none, 0⟩,
   ⟨some 25, .mv (.t 2), none, 0⟩,
   ⟨some 26, .mv (.t 4), none, 0⟩,
   ⟨some 27, .bin .mul (.t 25) (.t 26), none, 0⟩,
   ⟨some 28, .bin .add (.t 24) (.t 27), none, 0⟩,
   ⟨some 10, .mv (.t 28), none, 0⟩])
 (.ret)))⟩
theorem c122 : coF Try.prog Try.f89 = some C122 := by kernel_rfl
def A122 : Ann := { keep := [0, 1, 2, 3, 4, 5, 10, 23], live := [] }
def E122 {Ω : Type} : Env Ω := econs 88 S106 (enil)
theorem e122 : GoodE Try.prog E122 := GoodE.cons g106 (GoodE.nil)
def S122 {Ω : Type} : Spec Ω := inl E122 A122 C122 false
theorem g122 : Good1 Try.prog 89 S122 := Good1.inl e122 mix Try.func89 (by kernel_rfl) c122 A122 false
/-- (coatcheck/plan.Plan).Entry -/
def C111 : CF := ⟨2, [(4, none)],
 .seq (.reg false [⟨some 2, .box 75 8 (.t 0), none, 0⟩,
   ⟨some 4, .mv (.c (.d (.v (.int .i64 0)))), none, 0⟩])
 (.seq (.reg true [⟨some 5, .ld 8 true (.t 2), none, 0⟩,
   ⟨some 6, .ld 8 true (.t 2), none, 0⟩,
   ⟨some 7, .call (.c (.fn (.func 90) [] [])) [.t 6], none, 2⟩,
   ⟨some 8, .mv (.t 1), none, 0⟩,
   ⟨some 9, .fa 0 (.t 2), none, 0⟩,
   ⟨some 10, .fa 4 (.t 9), none, 16⟩,
   ⟨some 11, .ld 1 false (.t 10), none, 48⟩,
   ⟨some 12, .call (.c (.fn (.func 89) [] [])) [.t 5, .t 7, .t 8, .t 11, .c (.d (.v (.int .i64 2)))], none, 127⟩,
   ⟨some 4, .mv (.t 12), none, 255⟩])
 (.ret))⟩
theorem c111 : coF Try.prog Try.f39 = some C111 := by kernel_rfl
def A111 : Ann := { keep := [0, 1, 2, 4], live := [] }
def E111 {Ω : Type} : Env Ω := econs 89 S122 (econs 90 S127 (enil))
theorem e111 : GoodE Try.prog E111 := GoodE.cons g122 (GoodE.cons g127 (GoodE.nil))
def S111 {Ω : Type} : Spec Ω := inl E111 A111 C111 false
theorem g111 : Good1 Try.prog 39 S111 := Good1.inl e111 mix Try.func39 (by kernel_rfl) c111 A111 false
/-- (coatcheck/plan.Plan).EntryLink -/
def C112 : CF := ⟨2, [(4, none)],
 .seq (.reg false [⟨some 2, .box 75 8 (.t 0), none, 0⟩,
   ⟨some 4, .mv (.c (.d (.v (.int .i64 0)))), none, 0⟩])
 (.seq (.reg true [⟨some 5, .ld 8 true (.t 2), none, 0⟩,
   ⟨some 6, .ld 8 true (.t 2), none, 0⟩,
   ⟨some 7, .call (.c (.fn (.func 90) [] [])) [.t 6], none, 2⟩,
   ⟨some 8, .bin .add (.t 7) (.c (.d (.v (.int .i64 1)))), none, 6⟩,
   ⟨some 9, .mv (.t 1), none, 0⟩,
   ⟨some 10, .fa 0 (.t 2), none, 0⟩,
   ⟨some 11, .fa 4 (.t 10), none, 32⟩,
   ⟨some 12, .ld 1 false (.t 11), none, 96⟩,
   ⟨some 13, .call (.c (.fn (.func 89) [] [])) [.t 5, .t 8, .t 9, .t 12, .c (.d (.v (.int .i64 2)))], none, 255⟩,
   ⟨some 4, .mv (.t 13), none, 511⟩])
 (.ret))⟩
theorem c112 : coF Try.prog Try.f98 = some C112 := by kernel_rfl
def A112 : Ann := { keep := [0, 1, 2, 4], live := [] }
def E112 {Ω : Type} : Env Ω := econs 89 S122 (econs 90 S127 (enil))
theorem e112 : GoodE Try.prog E112 := GoodE.cons g122 (GoodE.cons g127 (GoodE.nil))
def S112 {Ω : Type} : Spec Ω := inl E112 A112 C112 false
theorem g112 : Good1 Try.prog 98 S112 := Good1.inl e112 mix Try.func98 (by kernel_rfl) c112 A112 false
def K68_1 : CC := .seq (.reg false [⟨some 47, .mv (.t 5), none, 0⟩,
   ⟨some 2, .mv (.t 47), none, 0⟩])
 (.ret)
def K68_2 : CC := .seq (.cond 25 (.skip)
   (.exit 0))
 (.seq (.block 1 (.seq (.reg false [⟨some 26, .mv (.t 24), none, 0⟩,
     ⟨some 6, .mv (.t 26), none, 0⟩])
   (.seq (.reg false [⟨some 27, .mv (.t 5), none, 0⟩,
     ⟨some 28, .ld 8 true (.t 3), none, 0⟩,
     ⟨some 29, .mv (.t 6), none, 0⟩,
     ⟨some 30, .call (.c (.fn (.func 39) [] [])) [.t 28, .t 29], none, 0⟩,
     ⟨some 31, .call (.c (.fn (.func 74) [] [])) [.c (.d (.v (.int .u64 1))), .c (.d (.v (.int .i64 (-1)))), .c (.d (.v (.int .i64 0)))], none, 0⟩,
     ⟨some 32, .ixs 1 (.t 27) (.t 30), none, 0⟩,
     ⟨none, .st 1 (.t 32) (.t 31), none, 0⟩])
   (.seq (.reg false [⟨some 33, .mv (.t 6), none, 0⟩,
     ⟨some 34, .bin .add (.t 33) (.c (.d (.v (.int .i64 1)))), none, 0⟩,
     ⟨some 35, .fa 4 (.t 1), none, 0⟩,
     ⟨some 36, .ld 1 false (.t 35), none, 0⟩,
     ⟨some 37, .bin .lss (.t 34) (.t 36), none, 0⟩])
   (.cond 37 (.reg false [⟨some 38, .mv (.t 5), none, 0⟩,
       ⟨some 39, .ld 8 true (.t 3), none, 0⟩,
       ⟨some 40, .mv (.t 6), none, 0⟩,
       ⟨some 41, .call (.c (.fn (.func 98) [] [])) [.t 39, .t 40], none, 0⟩,
       ⟨some 42, .mv (.t 6), none, 0⟩,
       ⟨some 43, .bin .add (.t 42) (.c (.d (.v (.int .i64 2)))), none, 0⟩,
       ⟨some 44, .conv .u64 (.t 43), none, 0⟩,
       ⟨some 45, .ixs 1 (.t 38) (.t 41), none, 0⟩,
       ⟨none, .st 1 (.t 45) (.t 44), none, 0⟩])
     (.skip))))))
 (.reg false [⟨some 46, .bin .add (.t 24) (.c (.d (.v (.int .i64 1)))), none, 0⟩,
   ⟨some 24, .mv (.t 46), none, 0⟩]))
def K68_3 : CC := .reg false [⟨some 25, .bin .lss (.t 24) (.t 23), none, 0⟩]
def L68_4 : CC := .seq K68_3 K68_2
def K68_5 : CC := .reg false [⟨some 22, .fa 4 (.t 1), none, 0⟩,
   ⟨some 23, .ld 1 false (.t 22), none, 0⟩,
   ⟨some 24, .mv (.c (.d (.v (.int .i64 0)))), none, 0⟩]
def K68_6 : CC := .reg false [⟨some 17, .mv (.t 5), none, 0⟩,
   ⟨some 18, .mv (.t 5), none, 0⟩,
   ⟨some 19, .call (.c (.fn (.func 97) [] [])) [.c (.d (.v (.int .i64 0))), .c (.d (.v (.int .u64 0)))], none, 0⟩,
   ⟨some 20, .ixs 1 (.t 17) (.c (.d (.v (.int .i64 0)))), none, 0⟩,
   ⟨none, .st 1 (.t 20) (.c (.d (.v (.int .u64 2)))), none, 0⟩,
   ⟨some 21, .ixs 1 (.t 18) (.c (.d (.v (.int .i64 2)))), none, 0⟩,
   ⟨none, .st 1 (.t 21) (.t 19), none, 0⟩]
def K68_7 : CC := .reg false [⟨some 14, .ld 8 true (.t 3), none, 0⟩,
   ⟨some 15, .call (.c (.fn (.func 86) [] [])) [.t 14], none, 0⟩,
   ⟨some 16, .mks 24 1 8 (some .u64) [.d (.v (.int .u64 0))] (.t 15), none, 0⟩,
   ⟨some 5, .mv (.t 16), none, 0⟩]
def K68_8 : CC := .seq (.reg false [⟨some 12, .mv (.t 4), none, 0⟩,
   ⟨some 13, .eq .int true (.t 12) (.c (.d (.v (.int .i64 0)))), none, 0⟩])
 (.cond 13 (.seq (.reg false [⟨some 2, .mv (.c (.d (.v (.slice none 0 0)))), none, 0⟩])
   (.ret))
   (.skip))
def K68_9 : CC := .reg false [⟨some 8, .ld 8 true (.t 1), none, 0⟩,
   ⟨some 9, .call (.c (.fn (.func 85) [] [])) [.t 8], none, 0⟩,
   ⟨some 7, .mv (.t 9), none, 0⟩,
   ⟨some 10, .ext 0 (.t 7), none, 0⟩,
   ⟨some 11, .ext 1 (.t 7), none, 0⟩,
   ⟨some 3, .newc 75 [.d (.v (.int .i64 0)), .d (.v (.int .i64 0)), .d (.v (.int .i64 0)), .d (.v (.int .i64 0)), .d (.v (.int .i64 0)), .d (.v (.int .i64 0)), .d (.v (.int .i64 0)), .d (.v (.int .u64 0))], none, 0⟩,
   ⟨none, .st 8 (.t 3) (.t 10), none, 0⟩,
   ⟨some 4, .mv (.t 11), none, 0⟩]
def K68_10 : CC := .reg false [⟨some 1, .box 26 8 (.t 0), none, 0⟩,
   ⟨some 2, .mv (.c (.d (.v (.slice none 0 0)))), none, 0⟩]
/-- coatcheck/plan.First -/
def C68 : CF := ⟨1, [(2, none)],
 .seq K68_10 (.seq K68_9 (.seq K68_8 (.seq K68_7 (.seq K68_6 (.seq (.seq K68_5 (.block 0 (.loop L68_4))) K68_1)))))⟩
theorem c68 : coF Try.prog Try.f50 = some C68 := by kernel_rfl
def A68 : Ann := { keep := [0, 1, 2, 3, 4, 5, 6, 13, 23, 24, 25, 37], live := [(0, [1, 3, 5, 23, 24])] }
def E68 {Ω : Type} : Env Ω := econs 85 S63 (econs 86 S64 (econs 97 S109 (econs 74 S110 (econs 39 S111 (econs 98 S112 (enil))))))
theorem e68 : GoodE Try.prog E68 := GoodE.cons g63 (GoodE.cons g64 (GoodE.cons g109 (GoodE.cons g110 (GoodE.cons g111 (GoodE.cons g112 (GoodE.nil))))))
def Z68_4 {Ω : Type} (it : Itr Ω) (K : SV → SH → Option Ω) : SE → SS → Option Ω := kblk 0 (kseq it E68 A68 K68_1 0 (kfn C68 K))
end Go.Sx.Pr

/- A law's arguments as symbolic values. -/
namespace Go.Sx

def getI : DV → Int
  | .v (.int _ x) => x
  | _ => 0

theorem wt_int {P : Program} {n : Nat} {t : TypeId} {k : IntKind} (hu : P.underlying t = some (.int k)) {l : List DV} (h : Wt P (n + 1) t l) : ∃ x, l = [.v (.int k x)] ∧ (Lit.int k x).wf = true := by
  simpa only [Wt, hu] using h

/-- A struct of integers. -/
theorem wt_ints {P : Program} {n : Nat} : ∀ {ks : List IntKind} {l : List DV}, l.length = ks.length → (∀ (j : Nat) (k : IntKind), ks[j]? = some k → ∃ x, (l.drop j).take 1 = [.v (.int k x)] ∧ (Lit.int k x).wf = true) →
    ∃ xs : List Int, xs.length = ks.length ∧ l = List.zipWith (fun k x => DV.v (.int k x)) ks xs ∧ ∀ (j : Nat) (k : IntKind), ks[j]? = some k → (Lit.int k (xs.getD j 0)).wf = true
  | [], l, hl, _ => ⟨[], rfl, by simpa using hl, by simp⟩
  | k :: ks, l, hl, h => by
    match l, hl with
    | y :: r, hl =>
      obtain ⟨x, h1, h2⟩ := h 0 k rfl
      obtain ⟨xs, e1, e2, e3⟩ := wt_ints (P := P) (n := n) (ks := ks) (l := r) (by simpa using hl) (fun j k' hk => by simpa using h (j + 1) k' (by simpa using hk))
      refine ⟨x :: xs, by simp [e1], ?_, fun j k' hk => ?_⟩
      · simp only [List.zipWith_cons_cons]
        rw [← e2]
        simp at h1
        rw [h1]
      · cases j with
        | zero => simp at hk; subst hk; simpa using h2
        | succ j => simpa using e3 j k' (by simpa using hk)
    | [], hl => simp at hl

theorem u64_wf {x : Int} (h : (Lit.int .u64 x).wf = true) : 0 ≤ x ∧ x ≤ 18446744073709551615 := by
  simp only [Lit.wf, Bool.and_eq_true, IntKind.min, IntKind.max, IntKind.signed, IntKind.bits] at h
  simpa using h

theorem agg_rep {cx : Cx} {w : World} {l : List DV} {v : Value} (h : DRepL cx.fz w l v.cells.toList) (hl : l.length ≠ 1) : SRep cx w (.agg (l.map .d)) v := by
  have key : ∀ (l : List DV) (c : List Value), DRepL cx.fz w l c → SRepL cx w (l.map .d) c := by
    intro l
    induction l with
    | nil =>
      intro c h
      have : c = [] := by simpa using h.1.symm
      subst this; simp [SRepL]
    | cons x r ih =>
      intro c h
      match c, h with
      | v :: c, h =>
        simp only [List.map_cons, SRepL, SRep]
        refine ⟨by simpa using h.2 0 (by simp), ih c ⟨by simpa using h.1, fun j hj => by simpa using h.2 (j + 1) (by simpa using hj)⟩⟩
      | [], h => have := h.1; simp at this
  cases v with
  | agg c =>
    simp only [SRep]
    exact ⟨c.toList, by simp, key l _ (by simpa [Value.cells] using h)⟩
  | _ => exact absurd (by simpa [Value.cells] using h.1) hl

theorem cell_rep {fz : Nat → Prop} {w : World} {x : DV} {v : Value} (h : DRepL fz w [x] v.cells.toList) (hn : ∀ c, v ≠ .agg c) : DRep fz w x v := by
  have e : v.cells = #[v] := by
    cases v with
    | agg c => exact absurd rfl (hn c)
    | _ => rfl
  rw [e] at h
  simpa using h.2 0 (by simp)

/-- Fields of one cell, integers of these kinds. -/
def fieldsInt (P : Program) : List Field → List IntKind → Nat → Bool
  | [], [], _ => true
  | f :: fs, k :: ks, j => Nat.beq f.offset j && (Nat.beq (P.cellsOf f.type) 1 && ((match P.underlying f.type with | some (.int k') => kEq k k' | _ => false) && fieldsInt P fs ks (j + 1)))
  | _, _, _ => false

theorem fieldsInt_wt {P : Program} {n : Nat} {l : List DV} : ∀ {fs : List Field} {ks : List IntKind} {j0 : Nat}, fieldsInt P fs ks j0 = true → (∀ f ∈ fs, Wt P (n + 1) f.type ((l.drop f.offset).take (P.cellsOf f.type))) →
    ∀ (j : Nat) (k : IntKind), ks[j]? = some k → ∃ x, (l.drop (j0 + j)).take 1 = [.v (.int k x)] ∧ (Lit.int k x).wf = true
  | [], [], j0, _, _, j, k, hk => by simp at hk
  | f :: fs, k0 :: ks, j0, h, hw, j, k, hk => by
    simp only [fieldsInt, Bool.and_eq_true] at h
    obtain ⟨h1, h2, h3, h4⟩ := h
    cases j with
    | zero =>
      simp only [List.getElem?_cons_zero, Option.some.injEq] at hk
      subst hk
      have := hw f (by simp)
      rw [nbeq.1 h1, nbeq.1 h2] at this
      split at h3
      · rename_i k' hu
        rw [← kEq_eq h3] at hu
        exact wt_int hu (by simpa using this)
      · cases h3
    | succ j =>
      have := fieldsInt_wt h4 (fun f hf => hw f (by simp [hf])) j k (by simpa using hk)
      rwa [show j0 + 1 + j = j0 + (j + 1) by omega] at this
  | [], _ :: _, _, h, _, _, _, _ => by simp [fieldsInt] at h
  | _ :: _, [], _, h, _, _, _, _ => by simp [fieldsInt] at h

theorem wt_struct {P : Program} {n : Nat} {t : TypeId} {fs : Array Field} {ks : List IntKind} (hu : P.underlying t = some (.struct fs)) (hc : P.cellsOf t = ks.length) (hf : fieldsInt P fs.toList ks 0 = true) {l : List DV} (h : Wt P (n + 2) t l) :
    ∃ xs : List Int, xs.length = ks.length ∧ l = List.zipWith (fun k x => DV.v (.int k x)) ks xs ∧ ∀ (j : Nat) (k : IntKind), ks[j]? = some k → (Lit.int k (xs.getD j 0)).wf = true := by
  rw [show n + 2 = (n + 1) + 1 from rfl] at h
  simp only [Wt, hu] at h
  exact wt_ints (P := P) (n := n) (h.1.trans hc) fun j k hk => by simpa using fieldsInt_wt hf h.2 j k hk
end Go.Sx

/- Contracts with several outcomes; rows of which only what lies within counts. -/
namespace Go.Sx

def alts {Ω : Type} (k : SV → List Nat → List Nat → SH → Option Ω) (h : SH) : List (Bool × SV × SH) → Option Ω
  | [] => none
  | (g, r, hr) :: rest => br g (k (shft h.length r) [] [] (h ++ shftH h.length hr)) (alts k h rest)

def firstAlt : List (Bool × SV × SH) → Option (SV × SH)
  | [] => none
  | (g, r, hr) :: rest => bif g then some (r, hr) else firstAlt rest

def conSpecL (ts : List AT) (F : List (List Int) → List (Bool × SV × SH)) {Ω : Type} : Spec Ω := fun args h k =>
  match lendAs h ts args with
  | some l => alts k h (F l)
  | none => none

theorem alts_first {Ω : Type} {k : SV → List Nat → List Nat → SH → Option Ω} {h : SH} {out : Ω} : ∀ {L : List (Bool × SV × SH)}, alts k h L = some out → ∃ r hr, firstAlt L = some (r, hr) ∧ k (shft h.length r) [] [] (h ++ shftH h.length hr) = some out
  | [], e => by cases e
  | (g, r, hr) :: rest, e => by
    cases g with
    | true => exact ⟨r, hr, rfl, e⟩
    | false =>
      obtain ⟨r', hr', h1, h2⟩ := alts_first (L := rest) e
      exact ⟨r', hr', h1, h2⟩

theorem alts_of {Ω : Type} {k : SV → List Nat → List Nat → SH → Option Ω} {h : SH} : ∀ {L : List (Bool × SV × SH)} {r : SV} {hr : SH}, firstAlt L = some (r, hr) → alts k h L = k (shft h.length r) [] [] (h ++ shftH h.length hr)
  | [], r, hr, e => by cases e
  | (g, r', hr') :: rest, r, hr, e => by
    cases g with
    | true =>
      simp only [firstAlt, cond_true, Option.some.injEq, Prod.mk.injEq] at e
      obtain ⟨rfl, rfl⟩ := e
      rfl
    | false => exact alts_of (L := rest) e

theorem conL_par {ts : List AT} {F : List (List Int) → List (Bool × SV × SH)} {Ω Ω' : Type} : SpecPar (conSpecL ts F (Ω := Ω)) (conSpecL ts F (Ω := Ω')) := by
  intro args h k out hs
  unfold conSpecL at hs ⊢
  split at hs
  · rename_i l hl
    obtain ⟨r, hr, h1, h2⟩ := alts_first hs
    exact ⟨_, _, _, _, h2, fun k' => alts_of h1⟩
  · cases hs

/-- The same, but for what lies outside of a row. -/
def RowEqO (o o' : SO) : Prop := o = o' ∨ ∃ t sz n f f', o = .row t sz n f ∧ o' = .row t sz n f' ∧ ∀ i, i < n → ∀ j, j < sz → f i j = f' i j
def RowEq : SH → SH → Prop
  | [], [] => True
  | o :: r, o' :: r' => RowEqO o o' ∧ RowEq r r'
  | _, _ => False

theorem RowEq.refl : ∀ h : SH, RowEq h h
  | [] => trivial
  | _ :: r => ⟨.inl rfl, RowEq.refl r⟩
theorem RowEq.length : ∀ {h h' : SH}, RowEq h h' → h.length = h'.length
  | [], [], _ => rfl
  | _ :: r, _ :: r', e => by simp [RowEq.length e.2]
  | [], _ :: _, e => e.elim
  | _ :: _, [], e => e.elim
theorem RowEq.get : ∀ {h h' : SH}, RowEq h h' → ∀ l, RowEqO (hget h l) (hget h' l)
  | [], [], _, l => .inl rfl
  | _ :: r, _ :: r', e, 0 => by simpa [hget] using e.1
  | _ :: r, _ :: r', e, l + 1 => by simpa [hget] using RowEq.get e.2 l
  | [], _ :: _, e, _ => e.elim
  | _ :: _, [], e, _ => e.elim

theorem Gam.rowEq {cx : Cx} {h h' : SH} {w : World} (g : Gam cx h w) (e : RowEq h h') : Gam cx h' w := by
  have hlv : ∀ l, liv cx h' l → liv cx h l := fun l hl => by
    rcases e.get l with e1 | ⟨t, sz, n, f, f', e1, e2, _⟩
    · unfold liv at hl ⊢; rw [e1]; exact hl
    · unfold liv at hl ⊢; rw [e2] at hl; rw [e1]; exact hl
  refine ⟨by rw [← e.length]; exact g.n, fun l => ?_, fun l hl => g.lt l (hlv l hl), fun l hl => g.own l (hlv l hl), fun l m hl hm => g.inj l m (hlv l hl) (hlv m hm), g.fzlt, g.dj⟩
  have ho := g.obj l
  rcases e.get l with e1 | ⟨t, sz, n, f, f', e1, e2, e3⟩
  · rw [← e1]; exact ho
  · rw [e1] at ho
    rw [e2]
    simp only [ORep] at ho ⊢
    refine ⟨ho.1, ho.2.1, ho.2.2.1, ho.2.2.2.1, fun hn => ?_⟩
    obtain ⟨t', c', h1, h2, h3⟩ := ho.2.2.2.2 hn
    refine ⟨t', c', h1, h2, fun i hi j hj => ?_⟩
    obtain ⟨x, hx, hr⟩ := h3 i hi j hj
    exact ⟨x, hx, by rw [← e3 i hi j hj]; exact hr⟩

theorem conGoodL {P : Program} {g : Nat} {fn : Func} (hf : P.funcs[g]? = some fn) (hname : (fn.name == "runtime.NumGoroutine") = false) {C : CF} (hC : coF P fn = some C) {A : Ann} {e : {Ω : Type} → Env Ω} (he : GoodE P e) (hmix : P.follows .mixedOrders = true)
    {ts : List AT} {F : List (List Int) → List (Bool × SV × SH)}
    (hrun : ∀ l r hr, lenAs ts l → firstAlt (F l) = some (r, hr) → Flat r ∧ FlatH hr ∧ ∃ hr0 H, RowEq hr0 hr ∧ trim 0 r [] H = hr0 ∧ sxFn (e (Ω := SV × SH)) A C (encAs ts l) [] (fun r h => some (r, h)) = some (r, H)) :
    Good1 P g (fun {Ω} => conSpecL ts F (Ω := Ω)) := by
  have hbody : ∃ c, fn.body = some c := by
    unfold coF at hC
    split at hC
    · rename_i c hb; exact ⟨c, hb⟩
    · cases hC
  obtain ⟨c, hb⟩ := hbody
  have henter : ∀ (args : Array Value) (w : World), (callFunc g args).run P w = .ok (.enter g args) w := fun args w => by
    have h1 : fn.name ≠ "runtime.NumGoroutine" := by simpa using hname
    simp [callFunc, hf, h1, hb]
  refine ⟨fun Ω => ⟨henter, fun args h k out hs => ?_⟩, fun Ω Ω' => conL_par⟩
  unfold conSpecL at hs
  split at hs
  · rename_i l hl
    obtain ⟨r, hr, hF, hk⟩ := alts_first hs
    obtain ⟨f1, f2, hr0, H, heq, htr, hrun⟩ := hrun l r hr (lendAs_len hl) hF
    refine ⟨_, [], [], _, hk, ⟨by simp, fun l hl _ => by rw [hget_app, if_pos hl]⟩, fun cx w vals hg ha => ?_⟩
    refine (fn_calls (he.ok _) hmix hf hC hrun (cxA w) w vals (gamL w _) (lendAs_ok hg hl ha)).mono fun e w' ⟨v, cxq, e1, grq, hrq, hGq⟩ => ?_
    obtain ⟨cxs, hG, hr', hgrow⟩ := trim_sound (n0 := 0) (m := []) hGq hrq
    rw [htr] at hG
    have gr := hgrow (Nat.le_refl _) grq
    obtain ⟨k1, k2⟩ := join_flat hg gr (hG.rowEq heq) f2
    have nm : (fun l => nmem l []) = fun _ => false := funext fun l => by simp [nmem]
    rw [nm]
    exact ⟨v, _, e1, k2, by rw [← hg.n]; exact SRep.flat _ _ f1 hr', k1⟩
  · cases hs
end Go.Sx

/- Arguments of laws: a configuration, a list of words. -/
namespace Go.Sx.Pr
open Go Go.Sx Go.Proofs Go.ChangeShapes Go.WideShapes Go.ChangeAt Go.RowKit
set_option maxRecDepth 100000

theorem laid : laidOutB Try.prog = true := by kernel_rfl
theorem rowed : mapsRowed Try.prog = true := by kernel_rfl
theorem slicesFull : ∀ t e, t < Try.prog.types.size → Try.prog.underlying t = some (.slice e) → 0 < Try.prog.cellsOf e := slices_full_of Try.prog (by kernel_rfl)
theorem typesN : Nat.blt 100 Try.prog.types.size = true := by kernel_rfl
theorem tlt {t : Nat} (h : t ≤ 100) : t < Try.prog.types.size := by
  have := Nat.le_of_ble_eq_true typesN
  omega
theorem cells24 : Try.prog.cellsOf 26 = 8 := by kernel_rfl

/-- Words, as a test. -/
def u64B (ws : List Int) : Bool := ws.all fun v => decide (0 ≤ v) && decide (v ≤ 18446744073709551615)

section
variable {H : Type} {enc : TypeId × Value → H} {w : World}

theorem cfg_arg {v : Value} {d : DataW H} {p : List MemPlace} (h : DataW.Trod enc Try.prog w 0 (fun _ => true) true 26 v d p) : ∃ a b c d e f g l, SRep (cx0 w) w (cfgS a b c d e f g l) v := by
  obtain ⟨n, L, hW, hR⟩ := arg_rep (kids_rows laid rowed) slicesFull (t := 26) (tlt (by omega)) (m := 2) (fun n => by simp only [suppT, Try.underlying26, Try.underlying3, Try.underlying24]; rfl) h
  obtain ⟨xs, h1, h2, _⟩ := wt_struct (ks := cfgK) Try.underlying26 cells24 (by kernel_rfl) hW
  obtain ⟨a, b, c, d, e, f, g, l, rfl⟩ := eight h1
  refine ⟨a, b, c, d, e, f, g, l, ?_⟩
  have := agg_rep (cx := cx0 w) hR (by rw [h2]; simp)
  rw [h2] at this
  exact this

theorem words_arg {v : Value} {d : DataW H} {p : List MemPlace} {r : Reach} {base : Nat} (hv : Value.okWide Try.prog w r base 33 v) (h : DataW.Trod enc Try.prog w 0 (fun _ => true) true 33 v d p) :
    ∃ ws, u64B ws = true ∧ SRep (cx0 w) w (.d (.ints .u64 ws)) v := by
  obtain ⟨n, L, hW, hR⟩ := arg_rep (kids_rows laid rowed) slicesFull (t := 33) (tlt (by omega)) (m := 2) (fun n => by simp only [suppT, Try.underlying33, Try.underlying24]) h
  rw [show n + 2 = (n + 1) + 1 from rfl] at hW
  simp only [Wt, Try.underlying33, Try.underlying24] at hW
  obtain ⟨ws, rfl, _, hws⟩ := hW
  refine ⟨ws, List.all_eq_true.2 fun x hx => by have := u64_wf (hws x hx); simpa using this, ?_⟩
  simp only [SRep]
  exact cell_rep hR fun c e => by
    subst e
    simp only [Value.okWide, Try.underlying33] at hv
    exact cell_not_agg hv ⟨_, Try.underlying33, .inr (.inr (.inr ⟨_, rfl⟩))⟩
end
end Go.Sx.Pr

/- Contract: the initial words, from the plan's layer. -/
namespace Go.Sx.Pr
open Go Go.Sx Go.Proofs
set_option maxRecDepth 100000

theorem br_t {α : Type} {x y : α} : br true x y = x := by first | exact _root_.id (Eq.refl _)
theorem br_f {α : Type} {x y : α} : br false x y = y := by first | exact _root_.id (Eq.refl _)
abbrev KS : SV → SH → Option (SV × SH) := fun r h => some (r, h)

abbrev S68s (xs : List Int) (i : Int) (a b c d e f g l : Int) : SS := ⟨[(1, .ptr 0 0), (3, .ptr 1 0), (5, .own 2), (23, I e), (24, I i)], [CFG a b c d e f g l, .cells 75 [I a, I b, I c, I d, I e, I f, I g, U l], .rowi 24 .u64 xs]⟩
theorem m68 {Ω : Type} (it : Itr Ω) (K : SV → SH → Option Ω) (a b c d e f g l : Int) :
    sxFnI it E68 A68 C68 [cfgS a b c d e f g l] [] K =
    br (!chk a b c d e f g l == 0) (br (!chk a b c d e f g l == 0) (K (.d (DV.v (Value.slice none 0 0))) [.cells 26 [I a, I b, I c, I d, I e, I f, I g, U l], .cells 75 [I 0, I 0, I 0, I 0, I 0, I 0, I 0, U 0]]) none) (br (decide (0 ≤ szZ a b c d e f g l) && fits (Int.toNat (szZ a b c d e f g l)) 8) (br (inB 0 (List.length (List.replicate (Int.toNat (szZ a b c d e f g l)) (0 : Int)))) (br (inB 2 (List.length (List.set (List.replicate (Int.toNat (szZ a b c d e f g l)) (0 : Int)) 0 2))) (it [1, 3, 5, 23, 24] 3 (sxI it E68 A68 L68_4 0) (SS.mk [(1, .ptr 0 0), (3, .ptr 1 0), (5, .own 2), (23, I e), (24, I 0)] [.cells 26 [I a, I b, I c, I d, I e, I f, I g, U l], .cells 75 [I a, I b, I c, I d, I e, I f, I g, U l], .rowi 24 .u64 (List.set (List.set (List.replicate (Int.toNat (szZ a b c d e f g l)) (0 : Int)) 0 2) 2 1)]) (Z68_4 it K)) none) none) none) := by kernel_rfl
theorem m68_1 {Ω : Type} (it : Itr Ω) (IT : SS → Option Ω) (K : SV → SH → Option Ω) (xs : List Int) (i : Int) (a b c d e f g l : Int) :
    sxI it E68 A68 L68_4 0 (S68s xs i a b c d e f g l) (kitV [1, 3, 5, 23, 24] 3 IT (Z68_4 it K)) =
    br (decide (i < e)) (br (decide (i < 0)) none (br (decide (i ≥ e)) none (br (!chk a b c d e f g l == 0) none (br (inB (IntKind.wrap .i64 (IntKind.wrap .i64 (IntKind.wrap .i64 (3 + a) + b) + IntKind.wrap .i64 (i * 2))) (List.length xs)) (br (decide (IntKind.wrap .i64 (i + 1) < e)) (br (decide (i < 0)) none (br (decide (i ≥ e)) none (br (!chk a b c d e f g l == 0) none (br (inB (IntKind.wrap .i64 (IntKind.wrap .i64 (IntKind.wrap .i64 (IntKind.wrap .i64 (3 + a) + b) + 1) + IntKind.wrap .i64 (i * 2))) (List.length (List.set xs (Int.toNat (IntKind.wrap .i64 (IntKind.wrap .i64 (IntKind.wrap .i64 (3 + a) + b) + IntKind.wrap .i64 (i * 2)))) 1048576))) (IT (SS.mk [(1, .ptr 0 0), (3, .ptr 1 0), (5, .own 2), (23, I e), (24, I (IntKind.wrap .i64 (i + 1)))] [.cells 26 [I a, I b, I c, I d, I e, I f, I g, U l], .cells 75 [I a, I b, I c, I d, I e, I f, I g, U l], .rowi 24 .u64 (List.set (List.set xs (Int.toNat (IntKind.wrap .i64 (IntKind.wrap .i64 (IntKind.wrap .i64 (3 + a) + b) + IntKind.wrap .i64 (i * 2)))) 1048576) (Int.toNat (IntKind.wrap .i64 (IntKind.wrap .i64 (IntKind.wrap .i64 (IntKind.wrap .i64 (3 + a) + b) + 1) + IntKind.wrap .i64 (i * 2)))) (IntKind.wrap .u64 (IntKind.wrap .i64 (i + 2))))])) none)))) (IT (SS.mk [(1, .ptr 0 0), (3, .ptr 1 0), (5, .own 2), (23, I e), (24, I (IntKind.wrap .i64 (i + 1)))] [.cells 26 [I a, I b, I c, I d, I e, I f, I g, U l], .cells 75 [I a, I b, I c, I d, I e, I f, I g, U l], .rowi 24 .u64 (List.set xs (Int.toNat (IntKind.wrap .i64 (IntKind.wrap .i64 (IntKind.wrap .i64 (3 + a) + b) + IntKind.wrap .i64 (i * 2)))) 1048576)]))) none)))) (K (.own 2) [.cells 26 [I a, I b, I c, I d, I e, I f, I g, U l], .cells 75 [I a, I b, I c, I d, I e, I f, I g, U l], .rowi 24 .u64 xs]) := by kernel_rfl

/-- The initial words, m entries done: bs is where the entries begin. -/
def fpart (bs E m i : Nat) : Int :=
  if i = 0 then 2 else if i = 2 then 1 else if bs ≤ i ∧ i < bs + 2 * m then (if (i - bs) % 2 = 0 then 1048576 else if (i - bs) / 2 + 1 < E then (((i - bs) / 2 + 2 : Nat) : Int) else 0) else 0

def fl (n bs E m : Nat) : List Int := (List.range n).map (fpart bs E m)

theorem fl_length {n bs E m : Nat} : (fl n bs E m).length = n := by simp [fl]

theorem fl_zero {n bs E : Nat} (hb : 3 ≤ bs) : ((List.replicate n (0 : Int)).set 0 2).set 2 1 = fl n bs E 0 := by
  refine List.ext_getElem (by simp [fl]) fun i h1 h2 => ?_
  simp only [fl, List.getElem_set, List.getElem_map, List.getElem_range, List.getElem_replicate, fpart]
  repeat' split
  all_goals first | rfl | omega

theorem fl_last {n bs E m : Nat} (hb : 3 ≤ bs) (hm : m < E) (hn : bs + 2 * E ≤ n) (hl : ¬ m + 1 < E) : (fl n bs E m).set (bs + 2 * m) 1048576 = fl n bs E (m + 1) := by
  refine List.ext_getElem (by simp [fl]) fun i h1 h2 => ?_
  simp only [fl, List.getElem_set, List.getElem_map, List.getElem_range, fpart]
  repeat' split
  all_goals first | rfl | omega

theorem fl_step {n bs E m : Nat} (hb : 3 ≤ bs) (hm : m < E) (hn : bs + 2 * E ≤ n) (hl : m + 1 < E) : ((fl n bs E m).set (bs + 2 * m) 1048576).set (bs + 1 + 2 * m) ((m + 2 : Nat) : Int) = fl n bs E (m + 1) := by
  refine List.ext_getElem (by simp [fl]) fun i h1 h2 => ?_
  simp only [fl, List.getElem_set, List.getElem_map, List.getElem_range, fpart]
  repeat' split
  all_goals first | rfl | omega

theorem v68 {a b c d e f g l : Int} (h : chk a b c d e f g l = 0) : sxFn E68 A68 C68 [cfgS a b c d e f g l] [] KS =
    some (.own 2, [CFG a b c d e f g l, .cells 75 [I a, I b, I c, I d, I e, I f, I g, U l], .rowi 24 .u64 (fl (sizeN a.toNat b.toNat c.toNat d.toNat e.toNat) (3 + a.toNat + b.toNat) e.toNat e.toNat)]) := by
  have hc' : (chk a b c d e f g l == 0) = true := by simp [h]
  obtain ⟨⟨a1, a2⟩, ⟨b1, b2⟩, ⟨c1, c2⟩, ⟨g1, g2⟩, ⟨e1, e2⟩, _⟩ := chk_zero h
  obtain ⟨A, rfl⟩ := Int.eq_ofNat_of_zero_le (show 0 ≤ a by omega)
  obtain ⟨Bn, rfl⟩ := Int.eq_ofNat_of_zero_le (show 0 ≤ b by omega)
  obtain ⟨Cn, rfl⟩ := Int.eq_ofNat_of_zero_le (show 0 ≤ c by omega)
  obtain ⟨Dn, rfl⟩ := Int.eq_ofNat_of_zero_le (show 0 ≤ d by omega)
  obtain ⟨En, rfl⟩ := Int.eq_ofNat_of_zero_le (show 0 ≤ e by omega)
  have hz : szZ A Bn Cn Dn En f g l = ((sizeN A Bn Cn Dn En : Nat) : Int) := by simp [szZ, h]
  have hBC : Bn * Cn ≤ 8 * 16 := Nat.mul_le_mul (by omega) (by omega)
  have hP : (1 + Dn) * (Bn * Cn) ≤ 5 * 128 := Nat.mul_le_mul (by omega) (by omega)
  have hn1 : 3 + A + Bn + 2 * En ≤ sizeN A Bn Cn Dn En := by unfold sizeN; omega
  have hn2 : sizeN A Bn Cn Dn En ≤ 1000 := by unfold sizeN; omega
  simp only [Int.toNat_natCast]
  generalize hN : sizeN A Bn Cn Dn En = N at *
  generalize hB : 3 + A + Bn = bs at *
  rw [← sxFnI_eq, m68, hc', hz]
  simp only [Bool.not_true, br_f, Int.toNat_natCast, List.length_replicate, List.length_set]
  have q1 : (decide (0 ≤ (N : Int)) && fits N 8) = true := by
    rw [fits_of (by omega)]; simp
  have q2 : inB 0 N = true := by simp [inB]; omega
  have q3 : inB 2 N = true := by simp [inB]; omega
  rw [q1, q2, q3, br_t, br_t, br_t, fl_zero (bs := bs) (E := En) (by omega)]
  have w1 : IntKind.wrap .i64 (3 + (A : Int)) = 3 + A := by rw [w64] <;> omega
  have w2 : IntKind.wrap .i64 (3 + (A : Int) + Bn) = ((bs : Nat) : Int) := by rw [w64] <;> omega
  have w3 : IntKind.wrap .i64 ((bs : Int) + 1) = ((bs + 1 : Nat) : Int) := by rw [w64] <;> omega
  obtain ⟨n, hn⟩ := loop_n (f := sxI itB E68 A68 L68_4 0) (lv := [1, 3, 5, 23, 24]) (n0 := 3) (k := Z68_4 itB KS) (fun i => S68s (fl N bs En i) (i : Int) A Bn Cn Dn En f g l) big En (by unfold big; omega) (fun i hi I => by
    have w4 : IntKind.wrap .i64 ((i : Int) * 2) = ((2 * i : Nat) : Int) := by rw [w64] <;> omega
    have w5 : IntKind.wrap .i64 ((bs : Int) + ((2 * i : Nat) : Int)) = ((bs + 2 * i : Nat) : Int) := by rw [w64] <;> omega
    have w6 : IntKind.wrap .i64 (((bs + 1 : Nat) : Int) + ((2 * i : Nat) : Int)) = ((bs + 1 + 2 * i : Nat) : Int) := by rw [w64] <;> omega
    have w7 : IntKind.wrap .i64 ((i : Int) + 1) = ((i + 1 : Nat) : Int) := by rw [w64] <;> omega
    have w8 : IntKind.wrap .u64 (IntKind.wrap .i64 ((i : Int) + 2)) = ((i + 2 : Nat) : Int) := by rw [w64 (by omega) (by omega), IntKind.wrap_u64]; omega
    have z1 : decide ((i : Int) < 0) = false := by simp
    have z2 : decide ((i : Int) ≥ (En : Int)) = false := by simp; omega
    rw [m68_1, decide_eq_true (by omega), w1, w2, w3, w4, w5, w6, w7, w8, z1, z2, hc']
    simp only [br_t, br_f, Bool.not_true, Int.toNat_natCast, List.length_set, fl_length]
    have z3 : inB ((bs + 2 * i : Nat) : Int) N = true := by simp [inB]; omega
    rw [z3, br_t]
    by_cases hl : i + 1 < En
    · have z4 : decide (((i + 1 : Nat) : Int) < (En : Int)) = true := by simp; omega
      have z5 : inB ((bs + 1 + 2 * i : Nat) : Int) N = true := by simp [inB]; omega
      rw [z4, br_t, z5, br_t, fl_step (by omega) hi hn1 hl]
    · have z4 : decide (((i + 1 : Nat) : Int) < (En : Int)) = false := by simp; omega
      rw [z4, br_f, fl_last (by omega) hi hn1 hl])
  rw [itB_def]
  refine Eq.trans hn ?_
  rw [m68_1, decide_eq_false (by omega), br_f]

def FFirst : List (List Int) → List (Bool × SV × SH)
  | [[a, b, c, d, e, f, g, l]] => [(!(chk a b c d e f g l == 0), .d (.v (.slice none 0 0)), []), (true, .own 2, [.dead, .dead, .rowi 24 .u64 (fl (sizeN a.toNat b.toNat c.toNat d.toNat e.toNat) (3 + a.toNat + b.toNat) e.toNat e.toNat)])]
  | _ => []

theorem v68' {a b c d e f g l : Int} (h : ¬ chk a b c d e f g l = 0) : ∃ H, sxFn E68 A68 C68 [cfgS a b c d e f g l] [] KS = some (.d (.v (.slice none 0 0)), H) := by
  have hc' : (chk a b c d e f g l == 0) = false := by simp [h]
  rw [← sxFnI_eq, m68, hc']
  simp only [Bool.not_false, br_t]
  exact ⟨_, rfl⟩

def S68 {Ω : Type} : Spec Ω := conSpecL [.g cfgK] FFirst
theorem g68 : Good1 Try.prog 50 S68 := conGoodL Try.func50 (by kernel_rfl) c68 e68 mix (A := A68) fun L r hr hl hF => by
  obtain ⟨x, rfl, hx⟩ := lenAs_one hl
  obtain ⟨a, b, c, d, e, f, g, i, rfl⟩ := eight hx
  simp only [FFirst, firstAlt] at hF
  by_cases h : chk a b c d e f g i = 0
  · have hc' : (chk a b c d e f g i == 0) = true := by simp [h]
    rw [hc'] at hF
    simp only [Bool.not_true, cond_false, cond_true, Option.some.injEq, Prod.mk.injEq] at hF
    obtain ⟨rfl, rfl⟩ := hF
    exact ⟨trivial, ⟨trivial, trivial, trivial, trivial⟩, _, _, RowEq.refl _, by kernel_rfl, v68 h⟩
  · have hc' : (chk a b c d e f g i == 0) = false := by simp [h]
    rw [hc'] at hF
    simp only [Bool.not_false, cond_true, Option.some.injEq, Prod.mk.injEq] at hF
    obtain ⟨rfl, rfl⟩ := hF
    obtain ⟨H, hH⟩ := v68' h
    exact ⟨trivial, trivial, _, H, RowEq.refl _, trim_none rfl _, hH⟩
end Go.Sx.Pr

/- Contract: the layout's list, each word's place written out. -/
namespace Go.Sx.Pr
open Go Go.Sx Go.Proofs
set_option maxRecDepth 100000

theorem blt_t {a b : Nat} (h : a < b) : Nat.blt a b = true := Nat.ble_eq_true_of_le h
theorem blt_f {a b : Nat} (h : b ≤ a) : Nat.blt a b = false := by
  cases e : Nat.blt a b with
  | false => rfl
  | true => have := Nat.le_of_ble_eq_true e; omega

theorem acc_lo {q : Nat → Nat → DV} {m0 w : Nat} {ds : Nat → List DV} : ∀ {n i j : Nat}, i < m0 → acc 3 q m0 w ds n i j = q i j
  | 0, _, _, _ => rfl
  | n + 1, i, j, h => by
    have : i < m0 + w * n := by omega
    simp only [acc, catF]
    rw [blt_t this, cond_true]
    exact acc_lo h

theorem acc_hi {q : Nat → Nat → DV} {m0 w : Nat} {ds : Nat → List DV} (hw : 0 < w) : ∀ {n i j : Nat}, m0 ≤ i → i < m0 + w * n → acc 3 q m0 w ds n i j = lkD (ds ((i - m0) / w)) (((i - m0) % w) * 3 + j)
  | 0, i, _, h1, h2 => by omega
  | n + 1, i, j, h1, h2 => by
    simp only [acc, catF]
    rcases Nat.lt_or_ge i (m0 + w * n) with h | h
    · rw [blt_t h, cond_true]; exact acc_hi hw h1 h
    · rw [blt_f h, cond_false]
      have h3 : w * (n + 1) = w * n + w := Nat.mul_succ _ _
      have e : i - m0 = w * n + (i - (m0 + w * n)) := by omega
      have hr : i - (m0 + w * n) < w := by omega
      rw [e, Nat.mul_add_div hw, Nat.mul_add_mod, Nat.div_eq_of_lt hr, Nat.mod_eq_of_lt hr, Nat.add_zero]

theorem blk_lo {D : Nat} {q : Nat → Nat → DV} {m0 : Nat} : ∀ {n i j : Nat}, i < m0 → blkA D q m0 n i j = q i j
  | 0, _, _, _ => rfl
  | n + 1, i, j, h => by
    simp only [blkA]
    rw [acc_lo (by omega)]
    simp only [catF]
    rw [blt_t (by omega), cond_true]
    exact blk_lo h

theorem blk_hi {D : Nat} {q : Nat → Nat → DV} {m0 : Nat} : ∀ {n i j : Nat}, m0 ≤ i → i < m0 + (1 + D) * n →
    blkA D q m0 n i j = if (i - m0) % (1 + D) = 0 then lkD [dI 5, dI ((i - m0) / (1 + D) : Nat), dI 0] j else lkD (d6 ((i - m0) / (1 + D) : Nat) ((i - m0) % (1 + D) - 1)) j
  | 0, i, _, h1, h2 => by omega
  | n + 1, i, j, h1, h2 => by
    have h3 : (1 + D) * (n + 1) = (1 + D) * n + (1 + D) := Nat.mul_succ _ _
    simp only [blkA]
    rcases Nat.lt_or_ge i (m0 + (1 + D) * n) with h | h
    · rw [acc_lo (by omega)]
      simp only [catF]
      rw [blt_t h, cond_true]
      exact blk_hi h1 h
    · have e : i - m0 = (1 + D) * n + (i - (m0 + (1 + D) * n)) := by omega
      have hr : i - (m0 + (1 + D) * n) < 1 + D := by omega
      rw [e, Nat.mul_add_div (by omega), Nat.mul_add_mod, Nat.div_eq_of_lt hr, Nat.mod_eq_of_lt hr, Nat.add_zero]
      rcases Nat.eq_or_lt_of_le h with h4 | h4
      · subst h4
        rw [acc_lo (by omega)]
        simp only [catF]
        rw [blt_f (Nat.le_refl _), cond_false, Nat.sub_self, if_pos rfl]
        simp only [ap, Nat.zero_mul, Nat.zero_add]
        rfl
      · rw [acc_hi (by omega) (by omega) (by omega), if_neg (by omega)]
        have e2 : (i - (m0 + (1 + D) * n + 1)) / 1 = i - (m0 + (1 + D) * n) - 1 := by rw [Nat.div_one]; omega
        have e3 : (i - (m0 + (1 + D) * n + 1)) % 1 = 0 := Nat.mod_one _
        rw [e2, e3, Nat.zero_mul, Nat.zero_add]
        rfl

/-- What word i is. -/
def spotL (A Bn D E i : Nat) : List Int :=
  if i < 3 then [0, i, 0] else if i < 3 + A then [1, (i - 3 : Nat), 0] else if i < 3 + A + Bn then [2, (i - (3 + A) : Nat), 0]
  else if i < 3 + A + Bn + 2 * E then [(if (i - (3 + A + Bn)) % 2 = 0 then 3 else 4), ((i - (3 + A + Bn)) / 2 : Nat), 0]
  else if (i - (3 + A + Bn + 2 * E)) % (1 + D) = 0 then [5, ((i - (3 + A + Bn + 2 * E)) / (1 + D) : Nat), 0] else [6, ((i - (3 + A + Bn + 2 * E)) / (1 + D) : Nat), ((i - (3 + A + Bn + 2 * E)) % (1 + D) - 1 : Nat)]
def spot (A Bn D E i j : Nat) : Int := (spotL A Bn D E i).getD j 0

theorem qAll_spot {A Bn Cn D E i j : Nat} (hi : i < sizeN A Bn Cn D E) (hj : j < 3) : qAll A Bn Cn D E i j = .v (.int .i64 (spot A Bn D E i j)) := by
  unfold qAll spot spotL
  unfold sizeN at hi
  simp only [Nat.one_mul] at *
  split
  · rename_i h
    rw [blk_lo (by omega), acc_lo (by omega), acc_lo (by omega), acc_lo (by omega)]
    match i, h, j, hj with
    | 0, _, 0, _ | 0, _, 1, _ | 0, _, 2, _ | 1, _, 0, _ | 1, _, 1, _ | 1, _, 2, _ | 2, _, 0, _ | 2, _, 1, _ | 2, _, 2, _ => rfl
  · split
    · rw [blk_lo (by omega), acc_lo (by omega), acc_lo (by omega), acc_hi (by omega) (by omega) (by omega), Nat.div_one, Nat.mod_one, Nat.zero_mul, Nat.zero_add]
      match j, hj with
      | 0, _ | 1, _ | 2, _ => rfl
    · split
      · rw [blk_lo (by omega), acc_lo (by omega), acc_hi (by omega) (by omega) (by omega), Nat.div_one, Nat.mod_one, Nat.zero_mul, Nat.zero_add]
        match j, hj with
        | 0, _ | 1, _ | 2, _ => rfl
      · split
        · rw [blk_lo (by omega), acc_hi (by omega) (by omega) (by omega)]
          rcases Nat.mod_two_eq_zero_or_one (i - (3 + A + Bn)) with h | h
          · rw [h, if_pos rfl]
            match j, hj with
            | 0, _ | 1, _ | 2, _ => rfl
          · rw [h, if_neg (by omega)]
            match j, hj with
            | 0, _ | 1, _ | 2, _ => rfl
        · rw [blk_hi (by omega) (by omega)]
          split
          · match j, hj with
            | 0, _ | 1, _ | 2, _ => rfl
          · match j, hj with
            | 0, _ | 1, _ | 2, _ => rfl

end Go.Sx.Pr

namespace Go.Sx.Pr
open Go Go.Sx Go.Proofs
set_option maxRecDepth 100000
def K83_1 : CC := .seq (.reg false [⟨some 12, .mv (.t 3), none, 0⟩,
   ⟨some 2, .mv (.t 12), none, 0⟩])
 (.ret)
def L83_2 : CC := .seq (.seq (.reg false [⟨some 5, .mv (.t 4), none, 0⟩,
   ⟨some 6, .mv (.t 0), none, 0⟩,
   ⟨some 7, .bin .lss (.t 5) (.t 6), none, 0⟩])
 (.cond 7 (.skip)
   (.exit 0)))
 (.seq (.block 1 (.reg false [⟨some 10, .mv (.t 3), none, 0⟩,
     ⟨some 11, .bin .mul (.t 10) (.c (.d (.v (.int .u64 2)))), none, 0⟩,
     ⟨some 3, .mv (.t 11), none, 0⟩]))
 (.reg false [⟨some 8, .mv (.t 4), none, 0⟩,
   ⟨some 9, .bin .add (.t 8) (.c (.d (.v (.int .i64 1)))), none, 0⟩,
   ⟨some 4, .mv (.t 9), none, 0⟩]))
def K83_3 : CC := .reg false [⟨some 4, .mv (.c (.d (.v (.int .i64 0)))), none, 0⟩]
def K83_4 : CC := .reg false [⟨some 3, .mv (.c (.d (.v (.int .u64 1)))), none, 0⟩]
def K83_5 : CC := .reg false [⟨some 2, .mv (.c (.d (.v (.int .u64 0)))), none, 0⟩]
/-- coatcheck/coatcheckref01.power -/
def C83 : CF := ⟨1, [(2, none)],
 .seq K83_5 (.seq K83_4 (.seq (.seq K83_3 (.block 0 (.loop L83_2))) K83_1))⟩
theorem c83 : coF Try.prog Try.f67 = some C83 := by kernel_rfl
def A83 : Ann := { keep := [0, 2, 3, 4, 7], live := [(0, [0, 3, 4])] }
def E83 {Ω : Type} : Env Ω := enil
theorem e83 : GoodE Try.prog E83 := GoodE.nil
def Z83_2 {Ω : Type} (it : Itr Ω) (K : SV → SH → Option Ω) : SE → SS → Option Ω := kblk 0 (kseq it E83 A83 K83_1 0 (kfn C83 K))
def K80_1 : CC := .seq (.seq (.reg false [⟨some 14, .mv (.t 1), none, 0⟩,
   ⟨some 15, .bin .gtr (.t 14) (.c (.d (.v (.int .i64 63)))), none, 0⟩])
 (.cond 15 (.seq (.reg false [⟨some 16, .mv (.t 0), none, 0⟩,
     ⟨some 4, .mv (.t 16), none, 0⟩])
   (.ret))
   (.skip)))
 (.seq (.reg false [⟨some 17, .mv (.t 0), none, 0⟩,
   ⟨some 18, .mv (.t 5), none, 0⟩,
   ⟨some 19, .bin .rem (.t 17) (.t 18), none, 0⟩,
   ⟨some 4, .mv (.t 19), none, 0⟩])
 (.ret))
def L80_2 : CC := .seq (.seq (.reg false [⟨some 7, .mv (.t 6), none, 0⟩,
   ⟨some 8, .mv (.t 1), none, 0⟩,
   ⟨some 9, .bin .lss (.t 7) (.t 8), none, 0⟩])
 (.cond 9 (.skip)
   (.exit 0)))
 (.seq (.block 1 (.reg false [⟨some 12, .mv (.t 5), none, 0⟩,
     ⟨some 13, .bin .mul (.t 12) (.c (.d (.v (.int .u64 2)))), none, 0⟩,
     ⟨some 5, .mv (.t 13), none, 0⟩]))
 (.reg false [⟨some 10, .mv (.t 6), none, 0⟩,
   ⟨some 11, .bin .add (.t 10) (.c (.d (.v (.int .i64 1)))), none, 0⟩,
   ⟨some 6, .mv (.t 11), none, 0⟩]))
def K80_3 : CC := .reg false [⟨some 6, .mv (.c (.d (.v (.int .i64 0)))), none, 0⟩]
def K80_4 : CC := .reg false [⟨some 5, .mv (.c (.d (.v (.int .u64 1)))), none, 0⟩]
def K80_5 : CC := .reg false [⟨some 4, .mv (.c (.d (.v (.int .u64 0)))), none, 0⟩]
/-- coatcheck/coatcheckref01.Low -/
def C80 : CF := ⟨2, [(4, none)],
 .seq K80_5 (.seq K80_4 (.seq (.seq K80_3 (.block 0 (.loop L80_2))) K80_1))⟩
theorem c80 : coF Try.prog Try.f66 = some C80 := by kernel_rfl
def A80 : Ann := { keep := [0, 1, 4, 5, 6, 9, 15], live := [(0, [0, 1, 5, 6])] }
def E80 {Ω : Type} : Env Ω := enil
theorem e80 : GoodE Try.prog E80 := GoodE.nil
def Z80_2 {Ω : Type} (it : Itr Ω) (K : SV → SH → Option Ω) : SE → SS → Option Ω := kblk 0 (kseq it E80 A80 K80_1 0 (kfn C80 K))
end Go.Sx.Pr

/- Contract: the document's entry word of a free entry. -/
namespace Go.Sx.Pr
open Go Go.Sx Go.Proofs
set_option maxRecDepth 100000
end Go.Sx.Pr

namespace Go.Sx.Pr
open Go Go.Sx Go.Proofs
set_option maxRecDepth 100000
end Go.Sx.Pr

/- Contract: the document's initial words. -/
namespace Go.Sx.Pr
open Go Go.Sx Go.Proofs
set_option maxRecDepth 100000

abbrev T35 (i : Int) (r : List (Nat × SV)) : List (Nat × SV) := (1, .ptr 0 0) :: (3, .own 4) :: (4, .own 6) :: (5, I i) :: r
section
variable {Ω : Type} (it : Itr Ω) (K : SE → SS → Option Ω) (n : Nat) (sp : Nat → Nat → Int) (out : List Int) (i w : Int) (a b c d e f g l : Int)
end

end Go.Sx.Pr

namespace Go.Sx.Pr
open Go Go.Sx Go.Proofs
set_option maxRecDepth 100000
end Go.Sx.Pr

/- Contract: the document's address of a word. -/
namespace Go.Sx.Pr
open Go Go.Sx Go.Proofs
set_option maxRecDepth 100000

/-- Where a place first stands among m from i on. -/
def srch (sp : Nat → Nat → Int) (k x y : Int) : Nat → Nat → Int
  | 0, _ => -1
  | m + 1, i => bif (sp i 0 == k) && ((sp i 1 == x) && (sp i 2 == y)) then (i : Int) else srch sp k x y m (i + 1)

/-- The address of a word. -/
def atV (a b c d e f g l k x y : Int) : Int :=
  bif chk a b c d e f g l == 0 then srch (spot a.toNat b.toNat d.toNat e.toNat) k x y (sizeN a.toNat b.toNat c.toNat d.toNat e.toNat) 0 else -1

theorem size_le {a b c d e f g l : Int} (h : chk a b c d e f g l = 0) : sizeN a.toNat b.toNat c.toNat d.toNat e.toNat ≤ 1000 := by
  obtain ⟨⟨a1, a2⟩, ⟨b1, b2⟩, ⟨c1, c2⟩, ⟨g1, g2⟩, ⟨e1, e2⟩, _⟩ := chk_zero h
  have hBC : b.toNat * c.toNat ≤ 8 * 16 := Nat.mul_le_mul (by omega) (by omega)
  have hP : (1 + d.toNat) * (b.toNat * c.toNat) ≤ 5 * 128 := Nat.mul_le_mul (by omega) (by omega)
  unfold sizeN; omega

/-! ### what the search comes to -/
theorem srch_hit {sp : Nat → Nat → Int} {k x y : Int} {t : Nat} (ht : sp t 0 = k ∧ sp t 1 = x ∧ sp t 2 = y) : ∀ (m i : Nat), i ≤ t → t < i + m → (∀ j, i ≤ j → j < t → ¬ (sp j 0 = k ∧ sp j 1 = x ∧ sp j 2 = y)) → srch sp k x y m i = (t : Int)
  | 0, i, h1, h2, _ => by omega
  | m + 1, i, h1, h2, h3 => by
    simp only [srch]
    rcases Nat.eq_or_lt_of_le h1 with h | h
    · subst h
      have : ((sp i 0 == k) && ((sp i 1 == x) && (sp i 2 == y))) = true := by simp [ht]
      rw [this, cond_true]
    · have hn := h3 i (Nat.le_refl _) h
      have : ((sp i 0 == k) && ((sp i 1 == x) && (sp i 2 == y))) = false := by
        rw [Bool.eq_false_iff]
        intro h4
        simp only [Bool.and_eq_true, beq_iff_eq] at h4
        exact hn h4
      rw [this, cond_false]
      exact srch_hit ht m (i + 1) h (by omega) fun j h5 h6 => h3 j (by omega) h6

theorem srch_miss {sp : Nat → Nat → Int} {k x y : Int} : ∀ (m i : Nat), (∀ j, i ≤ j → j < i + m → ¬ (sp j 0 = k ∧ sp j 1 = x ∧ sp j 2 = y)) → srch sp k x y m i = -1
  | 0, i, _ => rfl
  | m + 1, i, h3 => by
    simp only [srch]
    have hn := h3 i (Nat.le_refl _) (by omega)
    have : ((sp i 0 == k) && ((sp i 1 == x) && (sp i 2 == y))) = false := by
      rw [Bool.eq_false_iff]
      intro h4
      simp only [Bool.and_eq_true, beq_iff_eq] at h4
      exact hn h4
    rw [this, cond_false]
    exact srch_miss m (i + 1) fun j h5 h6 => h3 j (by omega) (by omega)
end Go.Sx.Pr

/- The document's addresses, closed forms. -/
namespace Go.Sx.Pr
open Go Go.Sx Go.Proofs
set_option maxRecDepth 100000

theorem spot_cases (A Bn D E j : Nat) :
    (j < 3 ∧ spot A Bn D E j 0 = 0 ∧ spot A Bn D E j 1 = (j : Int) ∧ spot A Bn D E j 2 = 0) ∨
    (3 ≤ j ∧ j < 3 + A ∧ spot A Bn D E j 0 = 1 ∧ spot A Bn D E j 1 = ((j - 3 : Nat) : Int) ∧ spot A Bn D E j 2 = 0) ∨
    (3 + A ≤ j ∧ j < 3 + A + Bn ∧ spot A Bn D E j 0 = 2 ∧ spot A Bn D E j 1 = ((j - (3 + A) : Nat) : Int) ∧ spot A Bn D E j 2 = 0) ∨
    (3 + A + Bn ≤ j ∧ j < 3 + A + Bn + 2 * E ∧ (j - (3 + A + Bn)) % 2 = 0 ∧ spot A Bn D E j 0 = 3 ∧ spot A Bn D E j 1 = (((j - (3 + A + Bn)) / 2 : Nat) : Int) ∧ spot A Bn D E j 2 = 0) ∨
    (3 + A + Bn ≤ j ∧ j < 3 + A + Bn + 2 * E ∧ (j - (3 + A + Bn)) % 2 = 1 ∧ spot A Bn D E j 0 = 4 ∧ spot A Bn D E j 1 = (((j - (3 + A + Bn)) / 2 : Nat) : Int) ∧ spot A Bn D E j 2 = 0) ∨
    (3 + A + Bn + 2 * E ≤ j ∧ (j - (3 + A + Bn + 2 * E)) % (1 + D) = 0 ∧ spot A Bn D E j 0 = 5 ∧ spot A Bn D E j 1 = (((j - (3 + A + Bn + 2 * E)) / (1 + D) : Nat) : Int) ∧ spot A Bn D E j 2 = 0) ∨
    (3 + A + Bn + 2 * E ≤ j ∧ (j - (3 + A + Bn + 2 * E)) % (1 + D) ≠ 0 ∧ spot A Bn D E j 0 = 6 ∧ spot A Bn D E j 1 = (((j - (3 + A + Bn + 2 * E)) / (1 + D) : Nat) : Int) ∧ spot A Bn D E j 2 = (((j - (3 + A + Bn + 2 * E)) % (1 + D) - 1 : Nat) : Int)) := by
  unfold spot spotL
  by_cases h1 : j < 3
  · rw [if_pos h1]; exact .inl ⟨h1, rfl, rfl, rfl⟩
  · rw [if_neg h1]
    by_cases h2 : j < 3 + A
    · rw [if_pos h2]; exact .inr (.inl ⟨by omega, h2, rfl, rfl, rfl⟩)
    · rw [if_neg h2]
      by_cases h3 : j < 3 + A + Bn
      · rw [if_pos h3]; exact .inr (.inr (.inl ⟨by omega, h3, rfl, rfl, rfl⟩))
      · rw [if_neg h3]
        by_cases h4 : j < 3 + A + Bn + 2 * E
        · rw [if_pos h4]
          rcases Nat.mod_two_eq_zero_or_one (j - (3 + A + Bn)) with h5 | h5
          · rw [h5, if_pos rfl]; exact .inr (.inr (.inr (.inl ⟨by omega, h4, rfl, rfl, rfl, rfl⟩)))
          · rw [h5, if_neg (by omega)]; exact .inr (.inr (.inr (.inr (.inl ⟨by omega, h4, rfl, rfl, rfl, rfl⟩))))
        · rw [if_neg h4]
          by_cases h5 : (j - (3 + A + Bn + 2 * E)) % (1 + D) = 0
          · rw [if_pos h5]; exact .inr (.inr (.inr (.inr (.inr (.inl ⟨by omega, h5, rfl, rfl, rfl⟩)))))
          · rw [if_neg h5]; exact .inr (.inr (.inr (.inr (.inr (.inr ⟨by omega, h5, rfl, rfl, rfl⟩)))))

/-- One place, one address. -/
theorem spot_inj {A Bn D E j t : Nat} (h0 : spot A Bn D E j 0 = spot A Bn D E t 0) (h1 : spot A Bn D E j 1 = spot A Bn D E t 1) (h2 : spot A Bn D E j 2 = spot A Bn D E t 2) : j = t := by
  rcases spot_cases A Bn D E j with ⟨a1, a2, a3, a4⟩ | ⟨a0, a1, a2, a3, a4⟩ | ⟨a0, a1, a2, a3, a4⟩ | ⟨a0, a1, a5, a2, a3, a4⟩ | ⟨a0, a1, a5, a2, a3, a4⟩ | ⟨a0, a5, a2, a3, a4⟩ | ⟨a0, a5, a2, a3, a4⟩ <;>
  rcases spot_cases A Bn D E t with ⟨b1, b2, b3, b4⟩ | ⟨b0, b1, b2, b3, b4⟩ | ⟨b0, b1, b2, b3, b4⟩ | ⟨b0, b1, b5, b2, b3, b4⟩ | ⟨b0, b1, b5, b2, b3, b4⟩ | ⟨b0, b5, b2, b3, b4⟩ | ⟨b0, b5, b2, b3, b4⟩ <;>
  rw [a2, b2] at h0 <;> (try (exfalso; omega)) <;> rw [a3, b3] at h1 <;> rw [a4, b4] at h2
  · omega
  · omega
  · omega
  · omega
  · omega
  · have e1 := Nat.div_add_mod (j - (3 + A + Bn + 2 * E)) (1 + D)
    have e2 := Nat.div_add_mod (t - (3 + A + Bn + 2 * E)) (1 + D)
    have e3 : (j - (3 + A + Bn + 2 * E)) / (1 + D) = (t - (3 + A + Bn + 2 * E)) / (1 + D) := by omega
    rw [e3, a5] at e1
    rw [b5] at e2
    omega
  · have e1 := Nat.div_add_mod (j - (3 + A + Bn + 2 * E)) (1 + D)
    have e2 := Nat.div_add_mod (t - (3 + A + Bn + 2 * E)) (1 + D)
    have e3 : (j - (3 + A + Bn + 2 * E)) / (1 + D) = (t - (3 + A + Bn + 2 * E)) / (1 + D) := by omega
    have e4 : (j - (3 + A + Bn + 2 * E)) % (1 + D) = (t - (3 + A + Bn + 2 * E)) % (1 + D) := by omega
    rw [e3, e4] at e1
    omega

section
variable {a b c d e f g l : Int} (hc : chk a b c d e f g l = 0)
 include hc

theorem at_hit {k x y : Int} {t : Nat} (ht : t < sizeN a.toNat b.toNat c.toNat d.toNat e.toNat) (h0 : spot a.toNat b.toNat d.toNat e.toNat t 0 = k) (h1 : spot a.toNat b.toNat d.toNat e.toNat t 1 = x) (h2 : spot a.toNat b.toNat d.toNat e.toNat t 2 = y) :
    atV a b c d e f g l k x y = (t : Int) := by
  unfold atV
  rw [show (chk a b c d e f g l == 0) = true by simp [hc], cond_true]
  exact srch_hit ⟨h0, h1, h2⟩ _ 0 (by omega) (by omega) fun j _ hj hs => by
    have := spot_inj (hs.1.trans h0.symm) (hs.2.1.trans h1.symm) (hs.2.2.trans h2.symm)
    omega

theorem at_miss {k x y : Int} (h : ∀ j, j < sizeN a.toNat b.toNat c.toNat d.toNat e.toNat → ¬ (spot a.toNat b.toNat d.toNat e.toNat j 0 = k ∧ spot a.toNat b.toNat d.toNat e.toNat j 1 = x ∧ spot a.toNat b.toNat d.toNat e.toNat j 2 = y)) :
    atV a b c d e f g l k x y = -1 := by
  unfold atV
  rw [show (chk a b c d e f g l == 0) = true by simp [hc], cond_true]
  exact srch_miss _ 0 fun j _ hj => h j (by omega)

/-- The word of slab i. -/
theorem at2 (i : Int) : atV a b c d e f g l 2 i 0 = if 0 ≤ i ∧ i < b then 3 + a + i else -1 := by
  obtain ⟨⟨a1, a2⟩, ⟨b1, b2⟩, _⟩ := chk_zero hc
  split
  · rename_i h
    rw [at_hit hc (t := (3 + a + i).toNat) (by unfold sizeN; omega)]
    · omega
    all_goals rcases spot_cases a.toNat b.toNat d.toNat e.toNat (3 + a + i).toNat with h1 | h1 | h1 | h1 | h1 | h1 | h1 <;> omega
  · rename_i h
    refine at_miss hc fun j _ hs => ?_
    rcases spot_cases a.toNat b.toNat d.toNat e.toNat j with h1 | h1 | h1 | h1 | h1 | h1 | h1 <;> omega

theorem at4 (i : Int) : atV a b c d e f g l 4 i 0 = if 0 ≤ i ∧ i < e then 3 + a + b + 2 * i + 1 else -1 := by
  obtain ⟨⟨a1, a2⟩, ⟨b1, b2⟩, _, _, ⟨e1, e2⟩, _⟩ := chk_zero hc
  split
  · rename_i h
    rw [at_hit hc (t := (3 + a + b + 2 * i + 1).toNat) (by unfold sizeN; omega)]
    · omega
    all_goals rcases spot_cases a.toNat b.toNat d.toNat e.toNat (3 + a + b + 2 * i + 1).toNat with h1 | h1 | h1 | h1 | h1 | h1 | h1 <;> omega
  · rename_i h
    refine at_miss hc fun j _ hs => ?_
    rcases spot_cases a.toNat b.toNat d.toNat e.toNat j with h1 | h1 | h1 | h1 | h1 | h1 | h1 <;> omega
end
end Go.Sx.Pr

/- The document's addresses of blocks' links and words, closed forms. -/
namespace Go.Sx.Pr
open Go Go.Sx Go.Proofs
set_option maxRecDepth 100000

section
variable {a b c d e f g l : Int} (hc : chk a b c d e f g l = 0)
 include hc

/-- The link of block i. -/
theorem at5 (i : Int) : atV a b c d e f g l 5 i 0 = if 0 ≤ i ∧ i < b * c then 3 + a + b + 2 * e + (1 + d) * i else -1 := by
  obtain ⟨⟨a1, a2⟩, ⟨b1, b2⟩, ⟨c1, c2⟩, ⟨d1, d2⟩, ⟨e1, e2⟩, _⟩ := chk_zero hc
  obtain ⟨A, rfl⟩ := Int.eq_ofNat_of_zero_le (show 0 ≤ a by omega)
  obtain ⟨Bn, rfl⟩ := Int.eq_ofNat_of_zero_le (show 0 ≤ b by omega)
  obtain ⟨Cn, rfl⟩ := Int.eq_ofNat_of_zero_le (show 0 ≤ c by omega)
  obtain ⟨D, rfl⟩ := Int.eq_ofNat_of_zero_le (show 0 ≤ d by omega)
  obtain ⟨E, rfl⟩ := Int.eq_ofNat_of_zero_le (show 0 ≤ e by omega)
  split
  · rename_i h
    obtain ⟨n, rfl⟩ := Int.eq_ofNat_of_zero_le h.1
    have hn : n < Bn * Cn := by have := h.2; rw [← Int.natCast_mul] at this; omega
    have hmul : (1 + D) * (n + 1) ≤ (1 + D) * (Bn * Cn) := Nat.mul_le_mul_left _ hn
    rw [Nat.mul_succ] at hmul
    have hm : (3 + A + Bn + 2 * E + (1 + D) * n - (3 + A + Bn + 2 * E)) = (1 + D) * n := by omega
    have hd : ((1 + D) * n) / (1 + D) = n := Nat.mul_div_cancel_left _ (by omega)
    have hr : ((1 + D) * n) % (1 + D) = 0 := Nat.mul_mod_right _ _
    have hs := spot_cases A Bn D E (3 + A + Bn + 2 * E + (1 + D) * n)
    rw [hm, hd, hr] at hs
    have key : spot A Bn D E (3 + A + Bn + 2 * E + (1 + D) * n) 0 = 5 ∧ spot A Bn D E (3 + A + Bn + 2 * E + (1 + D) * n) 1 = (n : Int) ∧ spot A Bn D E (3 + A + Bn + 2 * E + (1 + D) * n) 2 = 0 := by
      rcases hs with h1 | h1 | h1 | h1 | h1 | h1 | h1
      · omega
      · omega
      · omega
      · omega
      · omega
      · exact ⟨h1.2.2.1, h1.2.2.2.1, h1.2.2.2.2⟩
      · exact absurd rfl h1.2.1
    rw [at_hit hc (t := 3 + A + Bn + 2 * E + (1 + D) * n) (by simp only [Int.toNat_natCast]; unfold sizeN; omega) key.1 key.2.1 key.2.2]
    push_cast
    rfl
  · rename_i h
    refine at_miss hc fun j hj hs => h ?_
    simp only [Int.toNat_natCast] at hj hs
    unfold sizeN at hj
    rcases spot_cases A Bn D E j with h1 | h1 | h1 | h1 | h1 | h1 | h1
    · omega
    · omega
    · omega
    · omega
    · omega
    · have h2 : (j - (3 + A + Bn + 2 * E)) / (1 + D) < Bn * Cn := Nat.div_lt_of_lt_mul (by omega)
      rw [← Int.natCast_mul]
      generalize (j - (3 + A + Bn + 2 * E)) / (1 + D) = Q at h1 h2
      generalize Bn * Cn = R at *
      omega
    · omega

end
end Go.Sx.Pr
