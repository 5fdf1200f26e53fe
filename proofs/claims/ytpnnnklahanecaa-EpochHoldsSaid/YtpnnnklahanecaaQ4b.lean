/- Pieces of the code of functions, compiled for the symbolic interpreter, each checked against the program; no conditions. -/
import Derived.Test.YtpnnnklahanecaaR13
import Derived.Test.YtpnnnklahanecaaO2
import Derived.Test.YtpnnnklahanecaaRows
import Derived.KernelRfl
import Derived.Test.YtpnnnklahanecaaSxMem2
import Derived.Test.YtpnnnklahanecaaSxCon3
set_option linter.unusedVariables false
set_option linter.unusedSimpArgs false
namespace Go.Sx.Pr
open Go Go.Sx Go.Proofs
set_option maxRecDepth 100000
end Go.Sx.Pr

namespace Go.Sx.Pr
open Go Go.Sx Go.Proofs
set_option maxRecDepth 100000
end Go.Sx.Pr

/- A worker's states compared; too great a state: what the document's functions answer. -/
namespace Go.Sx.Pr
open Go Go.Sx Go.Sx.Md Go.Proofs
set_option maxRecDepth 100000
def lenW (x : Wk) : Bool := decide (x.rack.length < 1000000000) && (decide (x.hold.length < 1000000000) && (decide (x.read.length < 1000000000) && (decide (x.l0.length < 1000000000) && (decide (x.l1.length < 1000000000) && decide (x.l2.length < 1000000000)))))
theorem bif_nil {α : Type} {b : Bool} {l : List α} {r : SV × SH} {f : List α → Option (SV × SH)} (hf : f [] = none) (h : f (bif b then l else []) = some r) : b = true ∧ f l = some r := by
  cases b with
  | true => exact ⟨rfl, h⟩
  | false => rw [cond_false, hf] at h; cases h
end Go.Sx.Pr

/- All: a copy of a memory's words. -/
namespace Go.Sx.Pr
open Go Go.Sx Go.Sx.Md Go.Proofs
set_option maxRecDepth 100000
theorem n33 {m : Mm} {t tw : TypeId} : sxFn (E33 (Ω := SV × SH)) (An A33 2) C33 [.ptr 0 0] (objs LM t tw m) (KT 2) = br (fits m.ws.length 8) (some (.own 2, [.cells t (LM.enc m), .rowi tw .u64 m.ws, .rowi 22 .u64 m.ws])) none := by kernel_rfl
def F33 : List SV → SH → List Alt := fun a0 h0 => match a0, h0 with
  | [.ptr 0 0], [.cells t c, .rowi tw .u64 ws] => bif isM c then [(fits ws.length 8, .own 2, [.cells t c, .rowi tw .u64 ws, .rowi 22 .u64 ws])] else []
  | _, _ => []
def S33c {Ω : Type} : Spec Ω := memSpecW [none] (findM 13) [] F33
theorem g33c : Good1 Try.prog 33 S33c := memGoodW (A := A33) Try.func33 (by kernel_rfl) c33 e33 mix fun a0 h0 r h1 hF => by
  unfold F33 at hF
  split at hF
  · rename_i t c tw ws
    obtain ⟨hc, hF⟩ := bif_nil rfl hF
    cases hl : fits ws.length 8 with
    | false => rw [hl] at hF; cases hF
    | true =>
      rw [hl] at hF
      simp only [firstAlt, cond_true, Option.some.injEq, Prod.mk.injEq] at hF
      obtain ⟨rfl, rfl⟩ := hF
      obtain ⟨e1, e2⟩ := lay_M c ws hc
      have hv := n33 (m := LM.dec c ws) (t := t) (tw := tw)
      rw [show objs LM t tw (LM.dec c ws) = [.cells t c, .rowi tw .u64 ws] by simp only [objs, e1, e2], e1, e2, hl, br_t] at hv
      obtain ⟨H, q3, q4⟩ := kt_of e33 hv
      refine ⟨fun i hi _ => ?_, _, _, H, LeV.refl _, RowEq.refl _, q3, q4⟩
      match i, hi with
      | 0, _ => rfl
      | 1, _ => rfl
      | i + 2, hi => exact absurd hi (by simp only [List.length_cons, List.length_nil]; omega)
  · cases hF
end Go.Sx.Pr

/- All's list as data. -/
namespace Go.Sx.Pr
open Go Go.Sx Go.Sx.Md Go.Proofs
set_option maxRecDepth 100000
end Go.Sx.Pr

namespace Go.Sx.Pr
open Go Go.Sx Go.Proofs
set_option maxRecDepth 100000
def K18_1 : CC := .seq (.block 0 (.seq (.reg false [⟨some 14, .mv (.t 7), none, 0⟩,
     ⟨some 15, .eq .int true (.t 14) (.c (.d (.v (.int .i64 0)))), none, 0⟩,
     ⟨some 13, .mv (.t 15), none, 0⟩])
   (.cond 13 (.seq (.reg false [⟨some 16, .mv (.t 7), none, 0⟩,
       ⟨some 4, .mv (.c (.d (.v (.pointer none)))), none, 0⟩,
       ⟨some 5, .mv (.t 16), none, 0⟩])
     (.ret))
     (.seq (.reg false [⟨some 18, .mv (.t 1), none, 0⟩,
       ⟨some 19, .len (.t 18), none, 0⟩,
       ⟨some 20, .ld 8 true (.t 6), none, 0⟩,
       ⟨some 21, .call (.c (.fn (.func 64) [] [])) [.t 20], none, 0⟩,
       ⟨some 22, .eq .int true (.t 19) (.t 21), none, 0⟩,
       ⟨some 17, .mv (.t 22), none, 0⟩])
     (.cond 17 (.seq (.reg false [⟨some 4, .mv (.c (.d (.v (.pointer none)))), none, 0⟩,
         ⟨some 5, .mv (.c (.d (.v (.int .i64 3)))), none, 0⟩])
       (.ret))
       (.skip))))))
 (.seq (.reg true [⟨some 23, .ld 8 true (.t 6), none, 0⟩,
   ⟨some 24, .mv (.t 1), none, 0⟩,
   ⟨some 25, .call (.c (.fn (.func 65) [] [])) [.t 24], none, 2⟩,
   ⟨some 26, .bld [.d (.v (.int .i64 0)), .d (.v (.int .i64 0)), .d (.v (.int .i64 0)), .d (.v (.int .i64 0)), .d (.v (.int .i64 0)), .d (.v (.int .i64 0)), .d (.v (.int .i64 0)), .d (.v (.int .u64 0)), .d (.v (.int .i64 0)), .d (.v (.int .i64 0)), .d (.v (.int .u64 0)), .d (.v (.int .u64 0)), .d (.v (.int .u64 0)), .d (.v (.slice none 0 0))] [(0, 8, .t 23), (13, 1, .t 25)], none, 7⟩,
   ⟨some 27, .box 51 14 (.t 26), none, 15⟩,
   ⟨some 4, .mv (.t 27), none, 31⟩,
   ⟨some 5, .mv (.c (.d (.v (.int .i64 0)))), none, 63⟩])
 (.ret))
def K18_2 : CC := .reg false [⟨some 9, .ld 8 true (.t 2), none, 0⟩,
   ⟨some 10, .call (.c (.fn (.func 63) [] [])) [.t 9], none, 0⟩,
   ⟨some 8, .mv (.t 10), none, 0⟩,
   ⟨some 11, .ext 0 (.t 8), none, 0⟩,
   ⟨some 12, .ext 1 (.t 8), none, 0⟩,
   ⟨some 6, .newc 49 [.d (.v (.int .i64 0)), .d (.v (.int .i64 0)), .d (.v (.int .i64 0)), .d (.v (.int .i64 0)), .d (.v (.int .i64 0)), .d (.v (.int .i64 0)), .d (.v (.int .i64 0)), .d (.v (.int .u64 0))], none, 0⟩,
   ⟨none, .st 8 (.t 6) (.t 11), none, 0⟩,
   ⟨some 7, .mv (.t 12), none, 0⟩]
def K18_3 : CC := .reg false [⟨some 2, .box 24 8 (.t 0), none, 0⟩,
   ⟨some 4, .mv (.c (.d (.v (.pointer none)))), none, 0⟩,
   ⟨some 5, .mv (.c (.d (.v (.int .i64 0)))), none, 0⟩]
/-- coatcheck/memory.From -/
def C18 : CF := ⟨2, [(4, none), (5, none)],
 .seq K18_3 (.seq K18_2 K18_1)⟩
theorem c18 : coF Try.prog Try.f18 = some C18 := by kernel_rfl
def A18 : Ann := { keep := [0, 1, 2, 4, 5, 6, 7, 13, 17], live := [] }
def E18 {Ω : Type} : Env Ω := econs 65 S65 (econs 63 S63 (econs 64 S64 (enil)))
theorem e18 : GoodE Try.prog E18 := GoodE.cons g65 (GoodE.cons g63 (GoodE.cons g64 (GoodE.nil)))
def S18 {Ω : Type} : Spec Ω := inl E18 A18 C18 false
theorem g18 : Good1 Try.prog 18 S18 := Good1.inl e18 mix Try.func18 (by kernel_rfl) c18 A18 false
/-- coatcheck/memory.New -/
def C34 : CF := ⟨1, [(2, none), (3, none)],
 .seq (.reg false [⟨some 1, .box 24 8 (.t 0), none, 0⟩,
   ⟨some 2, .mv (.c (.d (.v (.pointer none)))), none, 0⟩,
   ⟨some 3, .mv (.c (.d (.v (.int .i64 0)))), none, 0⟩])
 (.seq (.reg true [⟨some 4, .ld 8 true (.t 1), none, 0⟩,
   ⟨some 5, .ld 8 true (.t 1), none, 0⟩,
   ⟨some 6, .call (.c (.fn (.func 68) [] [])) [.t 5], none, 2⟩,
   ⟨some 7, .call (.c (.fn (.func 18) [] [])) [.t 4, .t 6], none, 7⟩,
   ⟨some 8, .ext 0 (.t 7), none, 15⟩,
   ⟨some 9, .ext 1 (.t 7), none, 15⟩,
   ⟨some 2, .mv (.t 8), none, 63⟩,
   ⟨some 3, .mv (.t 9), none, 127⟩])
 (.ret))⟩
theorem c34 : coF Try.prog Try.f34 = some C34 := by kernel_rfl
def A34 : Ann := { keep := [0, 1, 2, 3], live := [] }
def E34 {Ω : Type} : Env Ω := econs 18 S18 (econs 68 S68 (enil))
theorem e34 : GoodE Try.prog E34 := GoodE.cons g18 (GoodE.cons g68 (GoodE.nil))
def S34 {Ω : Type} : Spec Ω := inl E34 A34 C34 false
theorem g34 : Good1 Try.prog 34 S34 := Good1.inl e34 mix Try.func34 (by kernel_rfl) c34 A34 false
def K57_1 : CC := .seq (.reg false [⟨some 33, .mv (.t 1), none, 0⟩,
   ⟨some 34, .ld 8 true (.t 8), none, 0⟩,
   ⟨some 35, .mv (.t 2), none, 0⟩,
   ⟨some 36, .call (.c (.fn (.func 88) [] [])) [.t 34, .t 35], none, 0⟩,
   ⟨some 37, .ixs 1 (.t 33) (.t 36), none, 0⟩,
   ⟨some 38, .ld 1 false (.t 37), none, 0⟩,
   ⟨some 39, .call (.c (.fn (.func 87) [] [])) [.t 38], none, 0⟩,
   ⟨some 32, .mv (.t 39), none, 0⟩,
   ⟨some 40, .ext 0 (.t 32), none, 0⟩,
   ⟨some 41, .ext 1 (.t 32), none, 0⟩,
   ⟨some 10, .mv (.t 40), none, 0⟩,
   ⟨some 11, .mv (.t 41), none, 0⟩])
 (.seq (.seq (.reg false [⟨some 42, .mv (.t 11), none, 0⟩,
   ⟨some 43, .un .not (.t 42), none, 0⟩])
 (.cond 43 (.seq (.reg false [⟨some 6, .mv (.c (.d (.v (.int .u64 0)))), none, 0⟩,
     ⟨some 7, .mv (.c (.d (.v (.bool false)))), none, 0⟩])
   (.ret))
   (.skip)))
 (.seq (.reg false [⟨some 44, .mv (.t 10), none, 0⟩,
   ⟨some 6, .mv (.t 44), none, 0⟩,
   ⟨some 7, .mv (.c (.d (.v (.bool true)))), none, 0⟩])
 (.ret)))
def K57_2 : CC := .seq (.reg false [⟨some 17, .mv (.t 9), none, 0⟩,
   ⟨some 18, .eq .int true (.t 17) (.c (.d (.v (.int .i64 0)))), none, 0⟩,
   ⟨some 19, .mv (.t 18), none, 0⟩,
   ⟨some 20, .mv (.t 1), some (19, false), 0⟩,
   ⟨some 21, .len (.t 20), some (19, false), 0⟩,
   ⟨some 22, .ld 8 true (.t 8), some (19, false), 0⟩,
   ⟨some 23, .call (.c (.fn (.func 64) [] [])) [.t 22], some (19, false), 0⟩,
   ⟨some 24, .eq .int true (.t 21) (.t 23), some (19, false), 0⟩,
   ⟨some 25, .pick (.t 19) (.c (.d (.v (.bool true)))) (.t 24), none, 0⟩,
   ⟨some 26, .mv (.t 25), none, 0⟩,
   ⟨some 27, .ld 8 true (.t 8), some (26, false), 0⟩,
   ⟨some 28, .mv (.t 2), some (26, false), 0⟩,
   ⟨some 29, .call (.c (.fn (.func 88) [] [])) [.t 27, .t 28], some (26, false), 0⟩,
   ⟨some 30, .bin .lss (.t 29) (.c (.d (.v (.int .i64 0)))), some (26, false), 0⟩,
   ⟨some 31, .pick (.t 26) (.c (.d (.v (.bool true)))) (.t 30), none, 0⟩])
 (.cond 31 (.seq (.reg false [⟨some 6, .mv (.c (.d (.v (.int .u64 0)))), none, 0⟩,
     ⟨some 7, .mv (.c (.d (.v (.bool false)))), none, 0⟩])
   (.ret))
   (.skip))
def K57_3 : CC := .reg false [⟨some 13, .ld 8 true (.t 3), none, 0⟩,
   ⟨some 14, .call (.c (.fn (.func 63) [] [])) [.t 13], none, 0⟩,
   ⟨some 12, .mv (.t 14), none, 0⟩,
   ⟨some 15, .ext 0 (.t 12), none, 0⟩,
   ⟨some 16, .ext 1 (.t 12), none, 0⟩,
   ⟨some 8, .newc 49 [.d (.v (.int .i64 0)), .d (.v (.int .i64 0)), .d (.v (.int .i64 0)), .d (.v (.int .i64 0)), .d (.v (.int .i64 0)), .d (.v (.int .i64 0)), .d (.v (.int .i64 0)), .d (.v (.int .u64 0))], none, 0⟩,
   ⟨none, .st 8 (.t 8) (.t 15), none, 0⟩,
   ⟨some 9, .mv (.t 16), none, 0⟩]
def K57_4 : CC := .reg false [⟨some 3, .box 24 8 (.t 0), none, 0⟩,
   ⟨some 6, .mv (.c (.d (.v (.int .u64 0)))), none, 0⟩,
   ⟨some 7, .mv (.c (.d (.v (.bool false)))), none, 0⟩]
/-- coatcheck/epoch.Inside -/
def C57 : CF := ⟨3, [(6, none), (7, none)],
 .seq K57_4 (.seq K57_3 (.seq K57_2 K57_1))⟩
theorem c57 : coF Try.prog Try.f57 = some C57 := by kernel_rfl
def A57 : Ann := { keep := [0, 1, 2, 3, 6, 7, 8, 9, 10, 11, 31, 43], live := [] }
def E57 {Ω : Type} : Env Ω := econs 87 S87c (econs 88 S88 (econs 63 S63 (econs 64 S64 (enil))))
theorem e57 : GoodE Try.prog E57 := GoodE.cons g87c (GoodE.cons g88 (GoodE.cons g63 (GoodE.cons g64 (GoodE.nil))))
def S57 {Ω : Type} : Spec Ω := inl E57 A57 C57 false
theorem g57 : Good1 Try.prog 57 S57 := Good1.inl e57 mix Try.func57 (by kernel_rfl) c57 A57 false
def K53_1 : CC := .seq (.reg true [⟨some 38, .ld 8 true (.t 1), none, 0⟩,
   ⟨some 39, .mv (.t 2), none, 0⟩,
   ⟨some 40, .call (.c (.fn (.func 33) [] [])) [.t 39], none, 2⟩,
   ⟨some 41, .call (.c (.fn (.func 57) [] [])) [.t 38, .t 40, .c (.d (.v (.int .i64 0)))], none, 7⟩,
   ⟨some 37, .mv (.t 41), none, 15⟩,
   ⟨some 42, .ext 0 (.t 37), none, 31⟩,
   ⟨some 43, .ext 1 (.t 37), none, 31⟩,
   ⟨some 7, .mv (.t 42), none, 63⟩,
   ⟨some 8, .mv (.t 43), none, 255⟩])
 (.seq (.reg false [⟨some 44, .mv (.t 5), none, 0⟩,
   ⟨some 45, .eq .int false (.t 44) (.c (.d (.v (.int .i64 1)))), none, 0⟩,
   ⟨some 46, .mv (.t 45), none, 0⟩,
   ⟨some 47, .mv (.t 8), some (46, true), 0⟩,
   ⟨some 48, .pick (.t 46) (.t 47) (.c (.d (.v (.bool false)))), none, 0⟩,
   ⟨some 49, .mv (.t 48), none, 0⟩,
   ⟨some 50, .mv (.t 7), some (49, true), 0⟩,
   ⟨some 51, .eq .int false (.t 50) (.c (.d (.v (.int .u64 2)))), some (49, true), 0⟩,
   ⟨some 52, .pick (.t 49) (.t 51) (.c (.d (.v (.bool false)))), none, 0⟩,
   ⟨some 0, .mv (.t 52), none, 0⟩])
 (.ret))
def L53_2 : CC := .seq (.seq (.reg false [⟨some 22, .mv (.t 6), none, 0⟩,
   ⟨some 23, .bin .lss (.t 22) (.c (.d (.v (.int .i64 3)))), none, 0⟩,
   ⟨some 24, .mv (.t 23), none, 0⟩,
   ⟨some 25, .mv (.t 5), some (24, true), 0⟩,
   ⟨some 26, .eq .int false (.t 25) (.c (.d (.v (.int .i64 0)))), some (24, true), 0⟩,
   ⟨some 27, .pick (.t 24) (.t 26) (.c (.d (.v (.bool false)))), none, 0⟩])
 (.cond 27 (.skip)
   (.exit 0)))
 (.seq (.block 1 (.reg false [⟨some 31, .mv (.t 2), none, 0⟩,
     ⟨some 32, .ld 33 true (.t 4), none, 0⟩,
     ⟨some 33, .call (.c (.fn (.func 54) [] [])) [.t 31, .c (.d (.v (.int .i64 0))), .t 32], none, 0⟩,
     ⟨some 30, .mv (.t 33), none, 0⟩,
     ⟨some 34, .ext 0 (.t 30), none, 0⟩,
     ⟨some 35, .ext 1 (.t 30), none, 0⟩,
     ⟨some 36, .ext 2 (.t 30), none, 0⟩,
     ⟨none, .st 33 (.t 4) (.t 34), none, 0⟩,
     ⟨some 5, .mv (.t 35), none, 0⟩]))
 (.reg false [⟨some 28, .mv (.t 6), none, 0⟩,
   ⟨some 29, .bin .add (.t 28) (.c (.d (.v (.int .i64 1)))), none, 0⟩,
   ⟨some 6, .mv (.t 29), none, 0⟩]))
def K53_3 : CC := .reg false [⟨some 6, .mv (.c (.d (.v (.int .i64 0)))), none, 0⟩]
def K53_4 : CC := .reg false [⟨some 5, .mv (.c (.d (.v (.int .i64 0)))), none, 0⟩]
def K53_5 : CC := .reg false [⟨some 21, .bld [.d (.v (.int .i64 0)), .d (.v (.int .i64 0)), .d (.v (.int .u64 0)), .d (.v (.int .u64 0)), .d (.v (.int .i64 0)), .d (.v (.bool false)), .d (.v (.int .i64 0)), .d (.v (.int .i64 0)), .d (.v (.bool false)), .d (.v (.int .u64 0)), .d (.v (.slice none 0 0)), .d (.v (.int .u64 0)), .d (.v (.slice none 0 0)), .d (.v (.int .u64 0)), .d (.v (.slice none 0 0)), .d (.v (.int .u64 0)), .d (.v (.slice none 0 0)), .d (.v (.slice none 0 0)), .d (.v (.int .i64 0)), .d (.v (.int .i64 0)), .d (.v (.int .i64 0)), .d (.v (.int .i64 0)), .d (.v (.int .i64 0)), .d (.v (.int .u64 0)), .d (.v (.int .u64 0)), .d (.v (.int .u64 0)), .d (.v (.int .u64 0)), .d (.v (.int .u64 0)), .d (.v (.int .i64 0)), .d (.v (.slice none 0 0)), .d (.v (.int .u64 0)), .d (.v (.int .i64 0)), .d (.v (.bool false))] [(0, 1, .c (.d (.v (.int .i64 1))))], none, 0⟩,
   ⟨some 4, .newc 73 [.d (.v (.int .i64 0)), .d (.v (.int .i64 0)), .d (.v (.int .u64 0)), .d (.v (.int .u64 0)), .d (.v (.int .i64 0)), .d (.v (.bool false)), .d (.v (.int .i64 0)), .d (.v (.int .i64 0)), .d (.v (.bool false)), .d (.v (.int .u64 0)), .d (.v (.slice none 0 0)), .d (.v (.int .u64 0)), .d (.v (.slice none 0 0)), .d (.v (.int .u64 0)), .d (.v (.slice none 0 0)), .d (.v (.int .u64 0)), .d (.v (.slice none 0 0)), .d (.v (.slice none 0 0)), .d (.v (.int .i64 0)), .d (.v (.int .i64 0)), .d (.v (.int .i64 0)), .d (.v (.int .i64 0)), .d (.v (.int .i64 0)), .d (.v (.int .u64 0)), .d (.v (.int .u64 0)), .d (.v (.int .u64 0)), .d (.v (.int .u64 0)), .d (.v (.int .u64 0)), .d (.v (.int .i64 0)), .d (.v (.slice none 0 0)), .d (.v (.int .u64 0)), .d (.v (.int .i64 0)), .d (.v (.bool false))], none, 0⟩,
   ⟨none, .st 33 (.t 4) (.t 21), none, 0⟩]
def K53_6 : CC := .seq (.reg false [⟨some 15, .mv (.t 3), none, 0⟩,
   ⟨some 16, .eq .int true (.t 15) (.c (.d (.v (.int .i64 0)))), none, 0⟩,
   ⟨some 17, .mv (.t 16), none, 0⟩,
   ⟨some 18, .mv (.t 2), some (17, false), 0⟩,
   ⟨some 19, .eq .ptr false (.t 18) (.c (.d (.v (.pointer none)))), some (17, false), 0⟩,
   ⟨some 20, .pick (.t 17) (.c (.d (.v (.bool true)))) (.t 19), none, 0⟩])
 (.cond 20 (.seq (.reg false [⟨some 0, .mv (.c (.d (.v (.bool false)))), none, 0⟩])
   (.ret))
   (.skip))
def K53_7 : CC := .reg false [⟨some 11, .ld 8 true (.t 1), none, 0⟩,
   ⟨some 12, .call (.c (.fn (.func 34) [] [])) [.t 11], none, 0⟩,
   ⟨some 10, .mv (.t 12), none, 0⟩,
   ⟨some 13, .ext 0 (.t 10), none, 0⟩,
   ⟨some 14, .ext 1 (.t 10), none, 0⟩,
   ⟨some 2, .mv (.t 13), none, 0⟩,
   ⟨some 3, .mv (.t 14), none, 0⟩]
def K53_8 : CC := .reg false [⟨some 9, .bld [.d (.v (.int .i64 0)), .d (.v (.int .i64 0)), .d (.v (.int .i64 0)), .d (.v (.int .i64 0)), .d (.v (.int .i64 0)), .d (.v (.int .i64 0)), .d (.v (.int .i64 0)), .d (.v (.int .u64 0))] [(0, 1, .c (.d (.v (.int .i64 1)))), (1, 1, .c (.d (.v (.int .i64 1)))), (2, 1, .c (.d (.v (.int .i64 1)))), (3, 1, .c (.d (.v (.int .i64 1)))), (4, 1, .c (.d (.v (.int .i64 1)))), (6, 1, .c (.d (.v (.int .i64 1)))), (7, 1, .c (.d (.v (.int .u64 1))))], none, 0⟩,
   ⟨some 1, .newc 24 [.d (.v (.int .i64 0)), .d (.v (.int .i64 0)), .d (.v (.int .i64 0)), .d (.v (.int .i64 0)), .d (.v (.int .i64 0)), .d (.v (.int .i64 0)), .d (.v (.int .i64 0)), .d (.v (.int .u64 0))], none, 0⟩,
   ⟨none, .st 8 (.t 1) (.t 9), none, 0⟩]
def K53_9 : CC := .reg false [⟨some 0, .mv (.c (.d (.v (.bool false)))), none, 0⟩]
/-- coatcheck/coatchecklaw07.awake -/
def C53 : CF := ⟨0, [(0, none)],
 .seq K53_9 (.seq K53_8 (.seq K53_7 (.seq K53_6 (.seq K53_5 (.seq K53_4 (.seq (.seq K53_3 (.block 0 (.loop L53_2))) K53_1))))))⟩
theorem c53 : coF Try.prog Try.f53 = some C53 := by kernel_rfl
def A53 : Ann := { keep := [0, 1, 2, 3, 4, 5, 6, 7, 8, 20, 27], live := [(0, [1, 2, 4, 5, 6])] }
def E53 {Ω : Type} : Env Ω := econs 33 S33c (econs 34 S34 (econs 54 S54m (econs 57 S57 (enil))))
theorem e53 : GoodE Try.prog E53 := GoodE.cons g33c (GoodE.cons g34 (GoodE.cons g54m (GoodE.cons g57 (GoodE.nil))))
def S53 {Ω : Type} : Spec Ω := conSpec [] FTrue
theorem g53 : Good1 Try.prog 53 S53 := trueGood Try.func53 (by kernel_rfl) c53 (A := A53) e53 mix (by kernel_rfl)
end Go.Sx.Pr

/- Memory objects with their row's loc. -/
namespace Go.Sx.Pr
open Go Go.Sx Go.Sx.Md
def memC (c : Cf) (s : Ac) (o : Nat) : List SV := [I c.a, I c.b, I c.c, I c.d, I c.e, I c.f, I c.g, U c.l, I s.k, I s.a, U s.x, U s.y, U s.o, .own o]
end Go.Sx.Pr
