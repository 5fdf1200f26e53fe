/- Pieces of the code of functions, compiled for the symbolic interpreter, each checked against the program; no conditions. -/
import Derived.Test.YtibleafpbfbccaaV31
import Derived.Test.YtibleafpbfbccaaV31
import Derived.Test.YtibleafpbfbccaaRows
import Derived.KernelRfl
import Derived.Test.YtibleafpbfbccaaP1
import Derived.Test.YtibleafpbfbccaaV31
import Derived.Test.YtibleafpbfbccaaR9
import Derived.Test.YtibleafpbfbccaaR9
import Derived.Test.YtibleafpbfbccaaV31
set_option linter.all false
set_option linter.unusedVariables false
set_option linter.unusedSimpArgs false
set_option linter.unnecessarySimpa false
namespace Go.Sx.Pr
open Go Go.Sx Go.Proofs
set_option maxRecDepth 100000
def K1039_1 : CC := .seq (.reg false [⟨some 69, .fa 19 (.t 3), none, 0⟩,
   ⟨none, .st 1 (.t 69) (.c (.d (.v (.int .i64 0)))), none, 0⟩])
 (.seq (.reg false [⟨some 71, .ld 33 true (.t 3), none, 0⟩,
   ⟨some 72, .call (.c (.fn (.func 8) [] [])) [.t 71], none, 0⟩,
   ⟨some 70, .mv (.t 72), none, 0⟩,
   ⟨some 73, .ext 0 (.t 70), none, 0⟩,
   ⟨some 74, .ext 1 (.t 70), none, 0⟩,
   ⟨none, .st 33 (.t 3) (.t 73), none, 0⟩,
   ⟨some 9, .mv (.t 74), none, 0⟩])
 (.seq (.reg false [⟨some 75, .ld 33 true (.t 3), none, 0⟩,
   ⟨some 76, .mv (.t 9), none, 0⟩,
   ⟨none, .st 33 (.t 4) (.t 75), none, 0⟩,
   ⟨some 5, .mv (.t 76), none, 0⟩,
   ⟨some 6, .mv (.c (.d (.v (.bool true)))), none, 0⟩])
 (.ret)))
def K1039_2 : CC := .seq (.reg false [⟨some 41, .ld 33 true (.t 3), none, 0⟩,
   ⟨some 42, .mv (.t 9), none, 0⟩,
   ⟨none, .st 33 (.t 4) (.t 41), none, 0⟩,
   ⟨some 5, .mv (.t 42), none, 0⟩,
   ⟨some 6, .mv (.c (.d (.v (.bool true)))), none, 0⟩])
 (.ret)
def K1039_3 : CC := .seq (.reg false [⟨some 46, .fa 0 (.t 3), none, 0⟩,
   ⟨none, .st 1 (.t 46) (.c (.d (.v (.int .i64 30)))), none, 0⟩])
 (.seq (.reg false [⟨some 47, .ld 33 true (.t 3), none, 0⟩,
   ⟨none, .st 33 (.t 4) (.t 47), none, 0⟩,
   ⟨some 5, .mv (.c (.d (.v (.int .i64 0)))), none, 0⟩,
   ⟨some 6, .mv (.c (.d (.v (.bool true)))), none, 0⟩])
 (.ret))
def K1039_4 : CC := .seq (.seq (.reg false [⟨some 64, .mv (.t 12), none, 0⟩,
   ⟨some 65, .un .not (.t 64), none, 0⟩])
 (.cond 65 (.seq (.reg false [⟨some 66, .fa 0 (.t 3), none, 0⟩,
     ⟨none, .st 1 (.t 66) (.c (.d (.v (.int .i64 13)))), none, 0⟩])
   (.seq (.reg false [⟨some 67, .ld 33 true (.t 3), none, 0⟩,
     ⟨none, .st 33 (.t 4) (.t 67), none, 0⟩,
     ⟨some 5, .mv (.c (.d (.v (.int .i64 0)))), none, 0⟩,
     ⟨some 6, .mv (.c (.d (.v (.bool true)))), none, 0⟩])
   (.ret)))
   (.skip)))
 (.reg false [⟨some 68, .ld 33 true (.t 11), none, 0⟩,
   ⟨none, .st 33 (.t 3) (.t 68), none, 0⟩])
def K1039_5 : CC := .reg true [⟨some 52, .mv (.t 0), none, 0⟩,
   ⟨some 53, .nilc (.t 52), none, 1⟩,
   ⟨some 54, .fa 0 (.t 53), none, 3⟩,
   ⟨some 55, .fa 0 (.t 54), none, 7⟩,
   ⟨some 56, .ld 8 true (.t 55), none, 15⟩,
   ⟨some 57, .ld 33 true (.t 3), none, 0⟩,
   ⟨some 58, .fa 19 (.t 3), none, 0⟩,
   ⟨some 59, .ld 1 false (.t 58), none, 64⟩,
   ⟨some 60, .bin .sub (.t 59) (.c (.d (.v (.int .i64 1)))), none, 192⟩,
   ⟨some 61, .call (.c (.fn (.func 26) [] [])) [.t 56, .t 57, .t 60], none, 511⟩,
   ⟨some 51, .mv (.t 61), none, 1023⟩,
   ⟨some 62, .ext 0 (.t 51), none, 2047⟩,
   ⟨some 63, .ext 1 (.t 51), none, 2047⟩,
   ⟨some 11, .newc 43 [.d (.v (.int .i64 0)), .d (.v (.int .i64 0)), .d (.v (.int .u64 0)), .d (.v (.int .u64 0)), .d (.v (.int .i64 0)), .d (.v (.bool false)), .d (.v (.int .i64 0)), .d (.v (.int .i64 0)), .d (.v (.bool false)), .d (.v (.int .u64 0)), .d (.v (.slice none 0 0)), .d (.v (.int .u64 0)), .d (.v (.slice none 0 0)), .d (.v (.int .u64 0)), .d (.v (.slice none 0 0)), .d (.v (.int .u64 0)), .d (.v (.slice none 0 0)), .d (.v (.slice none 0 0)), .d (.v (.int .i64 0)), .d (.v (.int .i64 0)), .d (.v (.int .i64 0)), .d (.v (.int .i64 0)), .d (.v (.int .i64 0)), .d (.v (.int .u64 0)), .d (.v (.int .u64 0)), .d (.v (.int .u64 0)), .d (.v (.int .u64 0)), .d (.v (.int .u64 0)), .d (.v (.int .i64 0)), .d (.v (.slice none 0 0)), .d (.v (.int .u64 0)), .d (.v (.int .i64 0)), .d (.v (.bool false))], none, 0⟩,
   ⟨none, .st 33 (.t 11) (.t 62), none, 12287⟩,
   ⟨some 12, .mv (.t 63), none, 32767⟩]
def K1039_6 : CC := .reg false [⟨some 49, .mv (.t 8), none, 0⟩,
   ⟨some 50, .eq .int false (.t 49) (.c (.d (.v (.int .i64 39)))), none, 0⟩,
   ⟨some 48, .mv (.t 50), none, 0⟩]
def K1039_7 : CC := .reg false [⟨some 44, .mv (.t 9), none, 0⟩,
   ⟨some 45, .eq .int false (.t 44) (.c (.d (.v (.int .i64 2)))), none, 0⟩,
   ⟨some 43, .mv (.t 45), none, 0⟩]
def K1039_8 : CC := .reg false [⟨some 39, .mv (.t 9), none, 0⟩,
   ⟨some 40, .eq .int false (.t 39) (.c (.d (.v (.int .i64 0)))), none, 0⟩,
   ⟨some 38, .mv (.t 40), none, 0⟩]
def K1039_9 : CC := .reg false [⟨some 31, .mv (.t 7), none, 0⟩,
   ⟨some 32, .mv (.t 0), none, 0⟩,
   ⟨some 33, .ld 33 true (.t 3), none, 0⟩,
   ⟨some 34, .call (.t 31) [.t 32, .t 33], none, 0⟩,
   ⟨some 30, .mv (.t 34), none, 0⟩,
   ⟨some 35, .ext 0 (.t 30), none, 0⟩,
   ⟨some 36, .ext 1 (.t 30), none, 0⟩,
   ⟨some 37, .ext 2 (.t 30), none, 0⟩,
   ⟨none, .st 33 (.t 3) (.t 35), none, 0⟩,
   ⟨some 9, .mv (.t 36), none, 0⟩,
   ⟨some 10, .mv (.t 37), none, 0⟩]
def K1039_10 : CC := .seq (.reg false [⟨some 18, .mv (.t 8), none, 0⟩])
 (.block 0 (.seq (.block 4 (.seq (.block 3 (.block 2 (.seq (.block 1 (.seq (.seq (.seq (.seq (.reg false [⟨some 20, .eq .int false (.t 18) (.c (.d (.v (.int .i64 13)))), none, 0⟩,
             ⟨some 19, .mv (.t 20), none, 0⟩])
           (.cond 19 (.skip)
             (.seq (.reg false [⟨some 21, .eq .int false (.t 18) (.c (.d (.v (.int .i64 14)))), none, 0⟩,
               ⟨some 19, .mv (.t 21), none, 0⟩])
             (.cond 19 (.skip)
               (.reg false [⟨some 22, .eq .int false (.t 18) (.c (.d (.v (.int .i64 15)))), none, 0⟩,
                 ⟨some 19, .mv (.t 22), none, 0⟩])))))
           (.cond 19 (.exit 1)
             (.skip)))
           (.seq (.seq (.seq (.reg false [⟨some 24, .eq .int false (.t 18) (.c (.d (.v (.int .i64 30)))), none, 0⟩,
             ⟨some 23, .mv (.t 24), none, 0⟩])
           (.cond 23 (.skip)
             (.seq (.reg false [⟨some 25, .eq .int false (.t 18) (.c (.d (.v (.int .i64 31)))), none, 0⟩,
               ⟨some 23, .mv (.t 25), none, 0⟩])
             (.cond 23 (.skip)
               (.reg false [⟨some 26, .eq .int false (.t 18) (.c (.d (.v (.int .i64 32)))), none, 0⟩,
                 ⟨some 23, .mv (.t 26), none, 0⟩])))))
           (.cond 23 (.exit 2)
             (.skip)))
           (.seq (.reg false [⟨some 28, .eq .int false (.t 18) (.c (.d (.v (.int .i64 39)))), none, 0⟩,
             ⟨some 27, .mv (.t 28), none, 0⟩])
           (.cond 27 (.exit 3)
             (.skip)))))
           (.exit 4)))
         (.reg false [⟨some 7, .mv (.c (.fn (.func 25) [] [])), none, 0⟩]))))
     (.exit 0)))
   (.seq (.seq (.reg false [⟨some 29, .ld 33 true (.t 3), none, 0⟩,
     ⟨none, .st 33 (.t 4) (.t 29), none, 0⟩,
     ⟨some 5, .mv (.c (.d (.v (.int .i64 0)))), none, 0⟩,
     ⟨some 6, .mv (.c (.d (.v (.bool false)))), none, 0⟩])
   (.ret))
   (.exit 0))))
def K1039_11 : CC := .reg false [⟨some 16, .fa 0 (.t 3), none, 0⟩,
   ⟨some 17, .ld 1 false (.t 16), none, 0⟩,
   ⟨some 8, .mv (.t 17), none, 0⟩]
def K1039_12 : CC := .reg false [⟨some 7, .mv (.c (.fn (.func 24) [] [])), none, 0⟩]
def K1039_13 : CC := .seq (.reg false [⟨some 13, .mv (.t 0), none, 0⟩,
   ⟨some 14, .eq .ptr false (.t 13) (.c (.d (.v (.pointer none)))), none, 0⟩])
 (.cond 14 (.seq (.reg false [⟨some 15, .ld 33 true (.t 3), none, 0⟩,
     ⟨none, .st 33 (.t 4) (.t 15), none, 0⟩,
     ⟨some 5, .mv (.c (.d (.v (.int .i64 0)))), none, 0⟩,
     ⟨some 6, .mv (.c (.d (.v (.bool false)))), none, 0⟩])
   (.ret))
   (.skip))
def K1039_14 : CC := .reg false [⟨some 3, .box 43 33 (.t 1), none, 0⟩,
   ⟨some 4, .newc 43 [.d (.v (.int .i64 0)), .d (.v (.int .i64 0)), .d (.v (.int .u64 0)), .d (.v (.int .u64 0)), .d (.v (.int .i64 0)), .d (.v (.bool false)), .d (.v (.int .i64 0)), .d (.v (.int .i64 0)), .d (.v (.bool false)), .d (.v (.int .u64 0)), .d (.v (.slice none 0 0)), .d (.v (.int .u64 0)), .d (.v (.slice none 0 0)), .d (.v (.int .u64 0)), .d (.v (.slice none 0 0)), .d (.v (.int .u64 0)), .d (.v (.slice none 0 0)), .d (.v (.slice none 0 0)), .d (.v (.int .i64 0)), .d (.v (.int .i64 0)), .d (.v (.int .i64 0)), .d (.v (.int .i64 0)), .d (.v (.int .i64 0)), .d (.v (.int .u64 0)), .d (.v (.int .u64 0)), .d (.v (.int .u64 0)), .d (.v (.int .u64 0)), .d (.v (.int .u64 0)), .d (.v (.int .i64 0)), .d (.v (.slice none 0 0)), .d (.v (.int .u64 0)), .d (.v (.int .i64 0)), .d (.v (.bool false))], none, 0⟩,
   ⟨some 5, .mv (.c (.d (.v (.int .i64 0)))), none, 0⟩,
   ⟨some 6, .mv (.c (.d (.v (.bool false)))), none, 0⟩]
/-- coatcheck/give.Step -/
def C1039 : CF := ⟨2, [(4, some (33, true)), (5, none), (6, none)],
 .seq K1039_14 (.seq K1039_13 (.seq K1039_12 (.seq K1039_11 (.seq K1039_10 (.seq K1039_9 (.seq (.block 5 (.seq K1039_8 (.cond 38 K1039_2 (.seq K1039_7 (.cond 43 K1039_3 (.seq K1039_6 (.cond 48 (.seq K1039_5 K1039_4) .skip))))))) K1039_1))))))⟩
theorem c1039 : coF Try.prog Try.f9 = some C1039 := by kernel_rfl
def A1039 : Ann := { keep := [0, 1, 3, 4, 5, 6, 7, 8, 9, 11, 12, 14, 18, 19, 23, 27, 38, 43, 48, 65], live := [], kc := [19, 23] }
end Go.Sx.Pr

/- The contract of work.table: a table of functions, as data. -/
namespace Go.Sx.Pr
open Go Go.Sx Go.Sx.Md Go.Proofs
set_option maxRecDepth 100000
end Go.Sx.Pr

namespace Go.Sx.Pr
open Go Go.Sx Go.Proofs
set_option maxRecDepth 100000
end Go.Sx.Pr

/- Contracts of functions of a literal slice of lists (slices.Concat). -/
namespace Go.Sx

end Go.Sx

/- Contracts with memory whose results are data: rows that the callee made become data. -/
namespace Go.Sx

/-- Owned rows in a result become data. -/
def frzV (h : SH) : SV → Option (SV × SH)
  | .tup [.agg c] => match frzL h c with | some (c', h') => some (.tup [.agg c'], h') | none => none
  | .tup [.agg c, a] => match frzL h c with | some (c', h') => some (.tup [.agg c', a], h') | none => none
  | .tup [.agg c, a, b] => match frzL h c with | some (c', h') => some (.tup [.agg c', a, b], h') | none => none
  | .agg c => match frzL h c with | some (c', h') => some (.agg c', h') | none => none
  | _ => none

theorem frzV_sound {cx : Cx} {h h1 : SH} {w : World} (g : Gam cx h w) {x y : SV} {u : Value} (hx : SRep cx w x u) (hf : frzV h x = some (y, h1)) :
    ∃ cx1, Gam cx1 h1 w ∧ Grow0 cx w cx1 w ∧ SRep cx1 w y u := by
  unfold frzV at hf
  split at hf
  · split at hf
    · rename_i c c' h' hc
      simp only [Option.some.injEq, Prod.mk.injEq] at hf
      obtain ⟨rfl, rfl⟩ := hf
      simp only [SRep] at hx
      obtain ⟨l, rfl, hl⟩ := hx
      cases l with
      | nil => simp [SRepL] at hl
      | cons v vs =>
        simp only [SRepL] at hl
        obtain ⟨⟨q, rfl, hq⟩, hn⟩ := hl
        obtain ⟨cx1, g1, gr1, hy, _, _⟩ := frzL_sound g hq hc
        refine ⟨cx1, g1, gr1, _, rfl, ?_⟩
        cases vs with
        | nil => simp only [SRepL, and_true]; exact ⟨_, rfl, hy⟩
        | cons _ _ => simp [SRepL] at hn
    · cases hf
  · split at hf
    · rename_i c a c' h' hc
      simp only [Option.some.injEq, Prod.mk.injEq] at hf
      obtain ⟨rfl, rfl⟩ := hf
      simp only [SRep] at hx
      obtain ⟨l, rfl, hl⟩ := hx
      cases l with
      | nil => simp [SRepL] at hl
      | cons v vs =>
        simp only [SRepL] at hl
        obtain ⟨⟨q, rfl, hq⟩, hn⟩ := hl
        obtain ⟨cx1, g1, gr1, hy, _, _⟩ := frzL_sound g hq hc
        refine ⟨cx1, g1, gr1, _, rfl, ?_⟩
        simp only [SRepL]
        exact ⟨⟨_, rfl, hy⟩, hn.grow gr1⟩
    · cases hf
  · split at hf
    · rename_i c a b c' h' hc
      simp only [Option.some.injEq, Prod.mk.injEq] at hf
      obtain ⟨rfl, rfl⟩ := hf
      simp only [SRep] at hx
      obtain ⟨l, rfl, hl⟩ := hx
      cases l with
      | nil => simp [SRepL] at hl
      | cons v vs =>
        simp only [SRepL] at hl
        obtain ⟨⟨q, rfl, hq⟩, hn⟩ := hl
        obtain ⟨cx1, g1, gr1, hy, _, _⟩ := frzL_sound g hq hc
        refine ⟨cx1, g1, gr1, _, rfl, ?_⟩
        simp only [SRepL]
        exact ⟨⟨_, rfl, hy⟩, hn.grow gr1⟩
    · cases hf
  · split at hf
    · rename_i c c' h' hc
      simp only [Option.some.injEq, Prod.mk.injEq] at hf
      obtain ⟨rfl, rfl⟩ := hf
      simp only [SRep] at hx
      obtain ⟨q, rfl, hq⟩ := hx
      obtain ⟨cx1, g1, gr1, hy, _, _⟩ := frzL_sound g hq hc
      exact ⟨cx1, g1, gr1, _, rfl, hy⟩
    · cases hf
  · cases hf

theorem memGoodF {P : Program} {g : Nat} {fn : Func} (hf : P.funcs[g]? = some fn) (hname : (fn.name == "runtime.NumGoroutine") = false) {C : CF} (hC : coF P fn = some C) {A : Ann} {e : {Ω : Type} → Env Ω} (he : GoodE P e) (hmix : P.follows .mixedOrders = true)
    {ts : List (Option (List CT))} {find : SH → List SV → Option (List Nat)} {wr : List Nat} {F : List SV → SH → List Alt}
    (hrun : ∀ a0 h0 r h1, firstAlt (F a0 h0) = some (r, h1) → (∀ i, i < h0.length → nmem i wr = false → hget h1 i = hget h0 i) ∧ ∃ r0 H r1 h2, frzV H r0 = some (r1, h2) ∧ LeV r1 r ∧ RowEq (trim h0.length r1 (List.range h0.length) h2) h1 ∧
      sxFn (e (Ω := SV × SH)) { A with n0 := h0.length, ap := [] } C a0 h0 (fun r h => some (r, h)) = some (r0, H)) :
    Good1 P g (fun {Ω} => memSpecW ts find wr F (Ω := Ω)) := by
  have hbody : ∃ c, fn.body = some c := by
    unfold coF at hC
    split at hC
    · rename_i c hb; exact ⟨c, hb⟩
    · cases hC
  obtain ⟨c, hb⟩ := hbody
  have henter : ∀ (args : Array Value) (w : World), (callFunc g args).run P w = .ok (.enter g args) w := fun args w => by
    have h1 : fn.name ≠ "runtime.NumGoroutine" := by simpa using hname
    simp [callFunc, hf, h1, hb]
  refine ⟨fun Ω => ⟨henter, fun args h k out hs => ?_⟩, fun Ω Ω' => memW_par⟩
  unfold memSpecW at hs
  split at hs
  · cases hs
  · rename_i ls hls
    split at hs
    · rename_i a0 h0 ha hh
      obtain ⟨hok, hs⟩ := cond_some hs
      obtain ⟨r, h1, k1, k2, k3⟩ := altsW_first hs
      obtain ⟨hkeep, r0, H, r1, h2, hfz, hle, heq, hrun⟩ := hrun a0 h0 r h1 k1
      have hlen := (unrH_get hh).1
      refine ⟨_, _, _, _, k3, ⟨by simp only [List.length_append, setLs_length]; omega, fun l hl hlm => ?_⟩, fun cx w vals hg hargs => ?_⟩
      · rw [hget_app, setLs_length, if_pos hl, setLs_get hok rfl (by rw [renH_length]; exact k2)]
        cases hi : idx l ls 0 with
        | none => rfl
        | some i =>
          obtain ⟨_, h2, h3⟩ := idx_some hi
          simp only [Nat.sub_zero] at h2 h3
          simp only
          have hni : nmem i wr = false := by
            cases hb : nmem i wr with
            | false => rfl
            | true =>
              have := nmem_map (ls := ls) hb
              rw [h3, hlm] at this; cases this
          have h4 := (unrH_get hh).2 i h2
          rw [renH_get, hkeep i (by omega) hni, renO_unr h4, h3]
      · have hcalls := fn_calls (A := { A with n0 := h0.length, ap := [] }) (he.ok _) hmix hf hC hrun (cxM cx h ls) w vals (gamM hg hok hh) (nrmA_ok ha hargs)
        refine hcalls.mono fun e w' ⟨v, cxq, e1, grq, hrq, hGq⟩ => ?_
        obtain ⟨cx1, hG1, gr1, hr1⟩ := frzV_sound hGq hrq hfz
        obtain ⟨cxs, hG, hr, hgrow⟩ := trim_sound (n0 := h0.length) (m := List.range h0.length) hG1 hr1
        have gr := hgrow (by simp only [cxM, hlen]; exact Nat.le_refl _) (grq.trans (gr1.weak fun _ _ => rfl))
        have hG' := hG.rowEq heq
        obtain ⟨q1, q2⟩ := back_gam (ap := []) hg hok (fun i hi => by cases hi) aside_nil (fun i hi hni => by
          simp only [Ann.p, Ann.ok, hni, Bool.or_false]
          cases hb : Nat.ble h0.length i with
          | false => rfl
          | true => have := Nat.le_of_ble_eq_true hb; omega) gr hG' k2
        exact ⟨v, _, e1, q1, SRep.ren (rnR hok (by have := hG'.n; omega)) _ _ (LeV.rep _ _ _ hle hr), q2⟩
    · cases hs
end Go.Sx

/- Contracts of the library that the worker's lists use: Clone, Concat. -/
namespace Go.Sx.Pr
open Go Go.Sx Go.Sx.Md Go.Proofs
set_option maxRecDepth 100000
def S1076c {Ω : Type} : Spec Ω := sClone .i64 3 8
theorem g1076c : Good1 Try.prog 28 S1076c := clone_good Try.func28 (by kernel_rfl) c1076 (A := A1076) e1076 mix (fun cc => by kernel_rfl) (fun a c => ⟨[.dead, .rowi 3 .i64 []], 1, by kernel_rfl, rfl⟩) (fun x r => ⟨[.dead, .rowi 3 .i64 (x :: r)], 1, by
    have : sxFn E1076 A1076 C1076 [.d (.ints .i64 (x :: r))] [] (fun r h => some (r, h)) = br (fits (0 + List.length (x :: r)) 8) (some (.own 1, [.dead, .rowi 3 .i64 (x :: r)])) none := by kernel_rfl
    rw [this]
    simp, rfl⟩)
end Go.Sx.Pr

/- The worker's lists: functions over the contracts of Clone and Concat. -/
namespace Go.Sx.Pr
open Go Go.Sx Go.Sx.Md Go.Proofs
set_option maxRecDepth 100000
def E1075c {Ω : Type} : Env Ω := econs 28 S1076c (enil)
theorem e1075c : GoodE Try.prog E1075c := GoodE.cons g1076c (GoodE.nil)
end Go.Sx.Pr

/- Contracts with memory whose results are data, on the memory objects. -/
namespace Go.Sx.Pr
open Go Go.Sx Go.Sx.Md Go.Proofs
set_option maxRecDepth 100000

/-- The end of a run whose result becomes data. -/
abbrev KF (n : Nat) : SV → SH → Option (SV × SH) := fun r H => match frzV H r with
  | some (r1, h2) => some (r1, trim n r1 (List.range n) h2)
  | none => none

theorem kf_of {P : Program} {e : {Ω : Type} → Env Ω} (he : GoodE P e) {A : Ann} {C : CF} {args : List SV} {h h1 : SH} {n : Nat} {r : SV} (hr : sxFn (e (Ω := SV × SH)) A C args h (KF n) = some (r, h1)) :
    ∃ r0 H h2, frzV H r0 = some (r, h2) ∧ trim n r (List.range n) h2 = h1 ∧ sxFn (e (Ω := SV × SH)) A C args h KS = some (r0, H) := by
  obtain ⟨r', h', k1, k2⟩ := sxFn_par (he.par _ (SV × SH)) hr
  simp only [KF] at k1
  split at k1
  · rename_i r1 h2 hz
    simp only [Option.some.injEq, Prod.mk.injEq] at k1
    obtain ⟨rfl, rfl⟩ := k1
    exact ⟨r', h', h2, hz, rfl, k2 KS⟩
  · cases k1

theorem memFGoodF {P : Program} {g : Nat} {fn : Func} (hf : P.funcs[g]? = some fn) (hname : (fn.name == "runtime.NumGoroutine") = false) {C : CF} (hC : coF P fn = some C) {A : Ann} {e : {Ω : Type} → Env Ω} (he : GoodE P e) (hmix : P.follows .mixedOrders = true)
    {ts : List (Option (List CT))} {L : Lay} (hL : ∀ c ws, L.is c = true → L.enc (L.dec c ws) = c ∧ (L.dec c ws).ws = ws) {f : Mm → List SV → Option (Bool × SV × Mm)} {gn : List SV → Option SV}
    (hrun : ∀ m xs r m' t tw, f m xs = some (true, r, m') → ∃ r0, LeV r0 r ∧ sxFn (e (Ω := SV × SH)) (An A 2) C (.ptr 0 0 :: xs) (objs L t tw m) (KF 2) = some (r0, objs L t tw m'))
    (hnil : ∀ xs r, gn xs = some r → sxFn (e (Ω := SV × SH)) (An A 0) C (.d (.v (.pointer none)) :: xs) [] (KF 0) = some (r, [])) :
    Good1 P g (fun {Ω} => memSpecW ts (findM L.own) [0, 1] (memF L f gn) (Ω := Ω)) :=
  memGoodF (A := A) hf hname hC he hmix fun a0 h0 r h1 hF => by
    unfold memF at hF
    split at hF
    · rename_i xs t c tw ws
      refine ⟨fun i hi hn => ?_, ?_⟩
      · have : i = 0 ∨ i = 1 := by simp at hi; omega
        rcases this with rfl | rfl <;> simp [nmem] at hn
      cases hc : L.is c with
      | false => rw [hc] at hF; cases hF
      | true =>
        rw [hc, cond_true] at hF
        obtain ⟨e1, e2⟩ := hL c ws hc
        split at hF
        · rename_i b r' m' hg
          cases b with
          | false => cases hF
          | true =>
            simp only [firstAlt, cond_true, Option.some.injEq, Prod.mk.injEq] at hF
            obtain ⟨rfl, rfl⟩ := hF
            obtain ⟨r0, q1, q2⟩ := hrun _ xs r' m' t tw hg
            rw [show objs L t tw (L.dec c ws) = [.cells t c, .rowi tw .u64 ws] by simp only [objs, e1, e2]] at q2
            obtain ⟨r1, H, h2, q3, q4, q5⟩ := kf_of he q2
            exact ⟨r1, H, r0, h2, q3, q1, by rw [show (List.length [SO.cells t c, SO.rowi tw .u64 ws]) = 2 from rfl, q4]; exact RowEq.refl _, q5⟩
        · cases hF
    · rename_i xs
      refine ⟨fun i hi hn => by simp at hi, ?_⟩
      split at hF
      · rename_i r' hg
        simp only [firstAlt, cond_true, Option.some.injEq, Prod.mk.injEq] at hF
        obtain ⟨rfl, rfl⟩ := hF
        obtain ⟨r1, H, h2, q3, q4, q5⟩ := kf_of he (hnil xs r' hg)
        exact ⟨r1, H, r', h2, q3, LeV.refl r', by rw [show (List.length ([] : SH)) = 0 from rfl, q4]; exact RowEq.refl _, q5⟩
      · cases hF
    · cases hF
end Go.Sx.Pr

/- The pure model: a worker's lists, taking and giving blocks, limbo buckets, whole operations. Plain Lean. -/
namespace Go.Sx.Pr
open Go Go.Sx Go.Sx.Md

/-! ### layer 4 -/
def rackP (c : Cf) (x : Wk) (b : Int) : Wk × Bool := bif decide ((x.rack.length : Int) ≥ c.f) then (x, false) else ({ x with rack := x.rack ++ [b] }, true)
/-! ### layer 10 -/
def beginG (x : Wk) : Wk × Int := bif x.hold.length == 0 then ({ x with line := 0 }, 1) else ({ x with hold := x.hold.drop 1, K := w64' (x.hold.getD 0 0 + 1), line := 39 }, 0)
def endG (m : Mm) (x : Wk) : SR := ⟨m, (beginG { x with K := 0 }).1, (beginG { x with K := 0 }).2, true⟩
def stepG (m : Mm) (x : Wk) : SR :=
  if 13 ≤ x.line ∧ x.line ≤ 15 then
    (let r := stepS m x
     bif r.way == 0 then ⟨r.m, r.x, 0, true⟩ else bif r.way == 2 then ⟨r.m, { r.x with line := 30 }, 0, true⟩ else endG r.m r.x)
  else if 30 ≤ x.line ∧ x.line ≤ 32 then
    (let r := stepB m x
     bif r.way == 0 then ⟨r.m, r.x, 0, true⟩ else bif r.way == 2 then ⟨r.m, { r.x with line := 30 }, 0, true⟩ else endG r.m r.x)
  else if x.line = 39 then
    (let r := stepB m x
     bif r.way == 0 then ⟨r.m, r.x, 0, true⟩ else bif r.way == 2 then ⟨r.m, { r.x with line := 30 }, 0, true⟩
     else bif decide ((r.x.rack.length : Int) ≥ m.c.f) then ⟨r.m, { r.x with line := 13 }, 0, true⟩
     else endG r.m { r.x with rack := r.x.rack ++ [w64' (r.x.K - 1)] })
  else ⟨m, x, 0, false⟩

/-! ### layer 9 -/
/-! ### layer 5 -/
/-! ### layer 13 -/
structure KR where
  m : Mm
  x : Wk
  ok : Bool
end Go.Sx.Pr

/- The worker's lists: contracts. -/
namespace Go.Sx.Pr
open Go Go.Sx Go.Sx.Md Go.Proofs
set_option maxRecDepth 100000

abbrev KD : SV → SH → Option SV := fun r h => dat true h r
def argW : SV → Option Wk
  | .agg c => bif isC ctsW c then some (decW c) else none
  | _ => none
theorem argW_eq {s : SV} {x : Wk} (h : argW s = some x) : s = .agg (encW x) := by
  unfold argW at h
  split at h
  · obtain ⟨hc, h⟩ := cond_some h
    simp only [Option.some.injEq] at h
    rw [← h, enc_decW hc]
  · cases h
def argC : SV → Option Cf
  | .agg [.d (.v (.int .i64 a)), .d (.v (.int .i64 b)), .d (.v (.int .i64 c)), .d (.v (.int .i64 d)), .d (.v (.int .i64 e)), .d (.v (.int .i64 f)), .d (.v (.int .i64 g)), .d (.v (.int .u64 l))] => some ⟨a, b, c, d, e, f, g, l⟩
  | _ => none
theorem argC_eq {s : SV} {x : Cf} (h : argC s = some x) : s = .agg (encC x) := by
  unfold argC at h
  split at h
  · simp only [Option.some.injEq] at h; rw [← h]; rfl
  · cases h
/-- The lists are not long. -/
def shW (x : Wk) : Bool := decide (x.rack.length < 1000000) && (decide (x.l0.length < 1000000) && (decide (x.l1.length < 1000000) && (decide (x.l2.length < 1000000) && (decide (x.hold.length < 1000000) && decide (x.read.length < 1000000)))))
theorem shW_all {x : Wk} (h : shW x = true) : x.rack.length < 1000000 ∧ x.l0.length < 1000000 ∧ x.l1.length < 1000000 ∧ x.l2.length < 1000000 ∧ x.hold.length < 1000000 ∧ x.read.length < 1000000 := by
  simpa only [shW, Bool.and_eq_true, decide_eq_true_eq] using h
theorem inB_oV {i : Int} {n : Nat} (h0 : 0 ≤ i) (h1 : i < n) : inB i n = true := by simp only [inB, Bool.and_eq_true, decide_eq_true_eq]; exact ⟨h0, h1⟩
theorem okB_of {a b : Int} {n : Nat} (h0 : 0 ≤ a) (h1 : a ≤ b) (h2 : b ≤ n) : okB a b n (some b) = true := by simp only [okB, Bool.and_eq_true, decide_eq_true_eq, beq_self_eq_true, and_true]; exact ⟨h0, h1, h2⟩
theorem len0 {l : List Int} : ((l.length : Int) == 0) = (l.length == 0) := by
  cases l with
  | nil => rfl
  | cons a r => rw [beq_false_of_ne (by simp only [List.length_cons]; omega)]; rfl
theorem n1038 {Ω : Type} (K : SV → SH → Option Ω) (x : Wk) :
    sxFn (E1038 (Ω := Ω)) A1038 C1038 [.agg (encW x)] [] K =
    br ((↑ (List.length (Wk.hold x)) : Int) == 0) (K (.tup [.agg (encW { x with line := 0 }), I 1]) [.cells 43 (encW { x with line := 0 }), .cells 43 (encW { x with line := 0 })]) (br ((↑ (List.length (Wk.hold x)) : Int) == 0) (K (.tup [.agg (encW { x with line := 39, K := 0 }), I 0]) [.cells 43 (encW { x with line := 39, K := 0 }), .cells 43 (encW { x with line := 39, K := 0 })]) (br (inB 0 (List.length (Wk.hold x))) (br (okB 1 (↑ (List.length (Wk.hold x)) : Int) (List.length (Wk.hold x)) (some (↑ (List.length (Wk.hold x)) : Int))) (K (.tup [.agg (encW { x with line := 39, hold := List.drop 1 (List.take (Int.toNat (↑ (List.length (Wk.hold x)) : Int)) (Wk.hold x)), K := IntKind.wrap .i64 (List.getD (Wk.hold x) 0 0 + 1) }), I 0]) [.cells 43 (encW { x with line := 39, hold := List.drop 1 (List.take (Int.toNat (↑ (List.length (Wk.hold x)) : Int)) (Wk.hold x)), K := IntKind.wrap .i64 (List.getD (Wk.hold x) 0 0 + 1) }), .cells 43 (encW { x with line := 39, hold := List.drop 1 (List.take (Int.toNat (↑ (List.length (Wk.hold x)) : Int)) (Wk.hold x)), K := IntKind.wrap .i64 (List.getD (Wk.hold x) 0 0 + 1) })]) none) none)) := by kernel_rfl
theorem v1038 {x : Wk} (h : shW x = true) : sxFn (E1038 (Ω := SV)) A1038 C1038 [.agg (encW x)] [] KD = some (.tup [.agg (encW (beginG x).1), I (beginG x).2]) := by
  have hl := (shW_all h).2.2.2.2.1
  rw [n1038, len0]
  unfold beginG
  cases h0 : x.hold.length == 0 with
  | true => simp only [br_t, cond_true]; rfl
  | false =>
    have hne := ne_of_beq_false h0
    rw [inB_oV (by omega) (by omega), okB_of (by omega) (by omega) (by omega), Int.toNat_natCast, List.take_length]
    simp only [br_t, br_f, cond_false]
    rfl
theorem n1075 {Ω : Type} (K : SV → SH → Option Ω) (c : Cf) (x : Wk) (b : Int) :
    sxFn (E1075c (Ω := Ω)) A1075 C1075 [.agg (encC c), .agg (encW x), I b] [] K =
    br (decide ((↑ (List.length (Wk.rack x)) : Int) ≥ Cf.f c)) (K (.tup [.agg (encW x), B false]) [.cells 24 (encC c), .cells 43 (encW x), .cells 43 (encW x)]) (br (fits (List.length (Wk.rack x)) 8) (br (fits (List.length (Wk.rack x) + 1) 8) (K (.tup [.agg [I (Wk.line x), I (Wk.kind x), U (Wk.opT x), U (Wk.opX x), I (Wk.slab x), B (Wk.use x), I (Wk.by_ x), I (Wk.nth x), B (Wk.pinned x), U (Wk.E x), .own 3, U (Wk.t0 x), .d (DV.ints .i64 (Wk.l0 x)), U (Wk.t1 x), .d (DV.ints .i64 (Wk.l1 x)), U (Wk.t2 x), .d (DV.ints .i64 (Wk.l2 x)), .d (DV.ints .i64 (Wk.hold x)), I (Wk.B x), I (Wk.K x), I (Wk.I x), I (Wk.C x), I (Wk.borrow x), U (Wk.H x), U (Wk.N x), U (Wk.V x), U (Wk.U x), U (Wk.G x), I (Wk.J x), .d (DV.ints .u64 (Wk.read x)), U (Wk.T x), I (Wk.ret x), B (Wk.give x)], B true]) [.cells 24 (encC c), .cells 43 [I (Wk.line x), I (Wk.kind x), U (Wk.opT x), U (Wk.opX x), I (Wk.slab x), B (Wk.use x), I (Wk.by_ x), I (Wk.nth x), B (Wk.pinned x), U (Wk.E x), .own 3, U (Wk.t0 x), .d (DV.ints .i64 (Wk.l0 x)), U (Wk.t1 x), .d (DV.ints .i64 (Wk.l1 x)), U (Wk.t2 x), .d (DV.ints .i64 (Wk.l2 x)), .d (DV.ints .i64 (Wk.hold x)), I (Wk.B x), I (Wk.K x), I (Wk.I x), I (Wk.C x), I (Wk.borrow x), U (Wk.H x), U (Wk.N x), U (Wk.V x), U (Wk.U x), U (Wk.G x), I (Wk.J x), .d (DV.ints .u64 (Wk.read x)), U (Wk.T x), I (Wk.ret x), B (Wk.give x)], .cells 43 [I (Wk.line x), I (Wk.kind x), U (Wk.opT x), U (Wk.opX x), I (Wk.slab x), B (Wk.use x), I (Wk.by_ x), I (Wk.nth x), B (Wk.pinned x), U (Wk.E x), .own 3, U (Wk.t0 x), .d (DV.ints .i64 (Wk.l0 x)), U (Wk.t1 x), .d (DV.ints .i64 (Wk.l1 x)), U (Wk.t2 x), .d (DV.ints .i64 (Wk.l2 x)), .d (DV.ints .i64 (Wk.hold x)), I (Wk.B x), I (Wk.K x), I (Wk.I x), I (Wk.C x), I (Wk.borrow x), U (Wk.H x), U (Wk.N x), U (Wk.V x), U (Wk.U x), U (Wk.G x), I (Wk.J x), .d (DV.ints .u64 (Wk.read x)), U (Wk.T x), I (Wk.ret x), B (Wk.give x)], .rowi 3 .i64 (Wk.rack x ++ [b]), .cells 3 [I b]]) none) none) := by kernel_rfl
theorem v1075 {c : Cf} {x : Wk} {b : Int} (h : shW x = true) : sxFn (E1075c (Ω := SV)) A1075 C1075 [.agg (encC c), .agg (encW x), I b] [] KD = some (.tup [.agg (encW (rackP c x b).1), B (rackP c x b).2]) := by
  have hl := (shW_all h).1
  rw [n1075]
  unfold rackP
  cases h0 : decide ((x.rack.length : Int) ≥ c.f) with
  | true => simp only [br_t, cond_true]; rfl
  | false =>
    have f1 : fits x.rack.length 8 = true := by simp only [fits, decide_eq_true_eq]; omega
    have f2 : fits (x.rack.length + 1) 8 = true := by simp only [fits, decide_eq_true_eq]; omega
    rw [f1, f2]
    simp only [br_t, br_f, cond_false]
    rfl
end Go.Sx.Pr

/- The worker's lists and operations: contracts. -/
namespace Go.Sx.Pr
open Go Go.Sx Go.Sx.Md Go.Proofs
set_option maxRecDepth 100000
theorem pureP {P : Program} {g : Nat} {fn : Func} (hf : P.funcs[g]? = some fn) (hname : (fn.name == "runtime.NumGoroutine") = false) {C : CF} (hC : coF P fn = some C) {A : Ann} {e : {Ω : Type} → Env Ω} (he : GoodE P e) (hmix : P.follows .mixedOrders = true)
    {ts : List PT} {F : List SV → List (Bool × SV)} (h : ∀ az r, firstP (F az) = some r → sxFn (e (Ω := SV)) A C az [] KD = some r) : Good1 P g (fun {Ω} => pureSpec ts F (Ω := Ω)) :=
  pureGood hf hname hC he hmix fun az r hF => dat_of he (h az r hF)
def F1038p (xs : List SV) : List (Bool × SV) := match xs with
  | [a0] => match argW a0 with
    | some x => [(shW x, .tup [.agg (encW (beginG x).1), I (beginG x).2])]
    | _ => []
  | _ => []
def S1038p {Ω : Type} : Spec Ω := pureSpec [.g ctsW] F1038p
theorem g1038p : Good1 Try.prog 8 S1038p := pureP Try.func8 (by kernel_rfl) c1038 e1038 mix (A := A1038) fun az r hF => by
  unfold F1038p at hF
  split at hF
  · split at hF
    · rename_i x e0
      simp only [firstP] at hF
      cases hd : (shW x) with
      | false => rw [hd] at hF; cases hF
      | true =>
        rw [hd, cond_true, Option.some.injEq] at hF
        subst hF
        rw [argW_eq e0]
        exact v1038 hd
    · cases hF
  · cases hF
def F1075p (xs : List SV) : List (Bool × SV) := match xs with
  | [a0, a1, a2] => match argC a0, argW a1, sI a2 with
    | some c, some x, some b => [(shW x, .tup [.agg (encW (rackP c x b).1), B (rackP c x b).2])]
    | _, _, _ => []
  | _ => []
def S1075p {Ω : Type} : Spec Ω := pureSpec [.any, .g ctsW, .any] F1075p
theorem g1075p : Good1 Try.prog 26 S1075p := pureP Try.func26 (by kernel_rfl) c1075 e1075c mix (A := A1075) fun az r hF => by
  unfold F1075p at hF
  split at hF
  · split at hF
    · rename_i c x b e0 e1 e2
      simp only [firstP] at hF
      cases hd : (shW x) with
      | false => rw [hd] at hF; cases hF
      | true =>
        rw [hd, cond_true, Option.some.injEq] at hF
        subst hF
        rw [argC_eq e0, argW_eq e1, sI_eq e2]
        exact v1075 hd
    · cases hF
  · cases hF
end Go.Sx.Pr

/- The worker's lists and operations: contracts, second part. -/
namespace Go.Sx.Pr
open Go Go.Sx Go.Sx.Md Go.Proofs
set_option maxRecDepth 100000
def E1039p {Ω : Type} : Env Ω := econs 24 S61m (econs 8 S1038p (econs 25 S45m (econs 26 S1075p (enil))))
theorem e1039p : GoodE Try.prog E1039p := GoodE.cons g61m (GoodE.cons g1038p (GoodE.cons g45m (GoodE.cons g1075p (GoodE.nil))))
end Go.Sx.Pr

/- The worker's lists and operations: contracts, third part. -/
namespace Go.Sx.Pr
open Go Go.Sx Go.Sx.Md Go.Proofs
set_option maxRecDepth 100000
end Go.Sx.Pr

/- The worker's lists and operations: contracts, fourth part. -/
namespace Go.Sx.Pr
open Go Go.Sx Go.Sx.Md Go.Proofs
set_option maxRecDepth 100000
end Go.Sx.Pr

/- take.claimed: the blocks of a claimed slab. -/
namespace Go.Sx.Pr
open Go Go.Sx Go.Sx.Md Go.Proofs
set_option maxRecDepth 100000
end Go.Sx.Pr

/- give.Step against the pure model. -/
namespace Go.Sx.Pr
open Go Go.Sx Go.Sx.Md Go.Proofs
set_option maxRecDepth 100000
def A1039p : Ann := { A1039 with pu := [26] }
/-- The lists of a worker. -/
structure Ls where
  (r a b c h d : List Int)
def lst (x : Wk) : Ls := ⟨x.rack, x.l0, x.l1, x.l2, x.hold, x.read⟩
def shL (l : Ls) : Bool := decide (l.r.length < 1000000) && (decide (l.a.length < 1000000) && (decide (l.b.length < 1000000) && (decide (l.c.length < 1000000) && (decide (l.h.length < 1000000) && decide (l.d.length < 1000000)))))
theorem shW_lst {x y : Wk} (h : lst x = lst y) : shW x = shW y := show shL (lst x) = shL (lst y) by rw [h]
theorem lstC {t : Bool} {a b : SR} {v : Ls} (h1 : lst a.x = v) (h2 : lst b.x = v) : lst (bif t then a else b).x = v := by cases t <;> assumption
theorem lst_S (m : Mm) (x : Wk) : lst (stepS m x).x = lst x := by
  unfold stepS stepL
  repeat' (first | rfl | split | refine lstC ?_ ?_)
theorem lst_B (m : Mm) (x : Wk) : lst (stepB m x).x = lst x := by
  unfold stepB
  repeat' (first | rfl | split | refine lstC ?_ ?_)
theorem mcC {t : Bool} {a b : SR} {v : Cf} (h1 : a.m.c = v) (h2 : b.m.c = v) : (bif t then a else b).m.c = v := by cases t <;> assumption
theorem mc_B (m : Mm) (x : Wk) : (stepB m x).m.c = m.c := by
  unfold stepB
  repeat' (first | rfl | split | refine mcC ?_ ?_)
theorem nG_13 (m : Mm) (x : Wk) (t tw : TypeId) : sxFn (E1039p (Ω := SV × SH)) (An A1039p 2) C1039 [.ptr 0 0, .agg (I 13 :: encT x)] (objs LM t tw m) (KF 2) =
    br (okM m && okW { x with line := 13 }) (br ((stepS m { x with line := 13 }).way == 0) (some (.tup [.agg (encW (stepS m { x with line := 13 }).x), I (stepS m { x with line := 13 }).way, B true], objs LM t tw (stepS m { x with line := 13 }).m)) (br ((stepS m { x with line := 13 }).way == 2) (some (.tup [.agg (encW { (stepS m { x with line := 13 }).x with line := 30 }), I 0, B true], objs LM t tw (stepS m { x with line := 13 }).m)) (br (shW { (stepS m { x with line := 13 }).x with K := 0 }) (some (.tup [.agg (encW (beginG { (stepS m { x with line := 13 }).x with K := 0 }).1), I (beginG { (stepS m { x with line := 13 }).x with K := 0 }).2, B true], objs LM t tw (stepS m { x with line := 13 }).m)) none))) none := by kernel_rfl
theorem nG_14 (m : Mm) (x : Wk) (t tw : TypeId) : sxFn (E1039p (Ω := SV × SH)) (An A1039p 2) C1039 [.ptr 0 0, .agg (I 14 :: encT x)] (objs LM t tw m) (KF 2) =
    br (okM m && okW { x with line := 14 }) (br ((stepS m { x with line := 14 }).way == 0) (some (.tup [.agg (encW (stepS m { x with line := 14 }).x), I (stepS m { x with line := 14 }).way, B true], objs LM t tw (stepS m { x with line := 14 }).m)) (br ((stepS m { x with line := 14 }).way == 2) (some (.tup [.agg (encW { (stepS m { x with line := 14 }).x with line := 30 }), I 0, B true], objs LM t tw (stepS m { x with line := 14 }).m)) (br (shW { (stepS m { x with line := 14 }).x with K := 0 }) (some (.tup [.agg (encW (beginG { (stepS m { x with line := 14 }).x with K := 0 }).1), I (beginG { (stepS m { x with line := 14 }).x with K := 0 }).2, B true], objs LM t tw (stepS m { x with line := 14 }).m)) none))) none := by kernel_rfl
theorem nG_15 (m : Mm) (x : Wk) (t tw : TypeId) : sxFn (E1039p (Ω := SV × SH)) (An A1039p 2) C1039 [.ptr 0 0, .agg (I 15 :: encT x)] (objs LM t tw m) (KF 2) =
    br (okM m && okW { x with line := 15 }) (br ((stepS m { x with line := 15 }).way == 0) (some (.tup [.agg (encW (stepS m { x with line := 15 }).x), I (stepS m { x with line := 15 }).way, B true], objs LM t tw (stepS m { x with line := 15 }).m)) (br ((stepS m { x with line := 15 }).way == 2) (some (.tup [.agg (encW { (stepS m { x with line := 15 }).x with line := 30 }), I 0, B true], objs LM t tw (stepS m { x with line := 15 }).m)) (br (shW { (stepS m { x with line := 15 }).x with K := 0 }) (some (.tup [.agg (encW (beginG { (stepS m { x with line := 15 }).x with K := 0 }).1), I (beginG { (stepS m { x with line := 15 }).x with K := 0 }).2, B true], objs LM t tw (stepS m { x with line := 15 }).m)) none))) none := by kernel_rfl
theorem nG_30 (m : Mm) (x : Wk) (t tw : TypeId) : sxFn (E1039p (Ω := SV × SH)) (An A1039p 2) C1039 [.ptr 0 0, .agg (I 30 :: encT x)] (objs LM t tw m) (KF 2) =
    br (okM m && okW { x with line := 30 }) (br ((stepB m { x with line := 30 }).way == 0) (some (.tup [.agg (encW (stepB m { x with line := 30 }).x), I (stepB m { x with line := 30 }).way, B true], objs LM t tw (stepB m { x with line := 30 }).m)) (br ((stepB m { x with line := 30 }).way == 2) (some (.tup [.agg (encW { (stepB m { x with line := 30 }).x with line := 30 }), I 0, B true], objs LM t tw (stepB m { x with line := 30 }).m)) (br (shW { (stepB m { x with line := 30 }).x with K := 0 }) (some (.tup [.agg (encW (beginG { (stepB m { x with line := 30 }).x with K := 0 }).1), I (beginG { (stepB m { x with line := 30 }).x with K := 0 }).2, B true], objs LM t tw (stepB m { x with line := 30 }).m)) none))) none := by kernel_rfl
theorem nG_31 (m : Mm) (x : Wk) (t tw : TypeId) : sxFn (E1039p (Ω := SV × SH)) (An A1039p 2) C1039 [.ptr 0 0, .agg (I 31 :: encT x)] (objs LM t tw m) (KF 2) =
    br (okM m && okW { x with line := 31 }) (br ((stepB m { x with line := 31 }).way == 0) (some (.tup [.agg (encW (stepB m { x with line := 31 }).x), I (stepB m { x with line := 31 }).way, B true], objs LM t tw (stepB m { x with line := 31 }).m)) (br ((stepB m { x with line := 31 }).way == 2) (some (.tup [.agg (encW { (stepB m { x with line := 31 }).x with line := 30 }), I 0, B true], objs LM t tw (stepB m { x with line := 31 }).m)) (br (shW { (stepB m { x with line := 31 }).x with K := 0 }) (some (.tup [.agg (encW (beginG { (stepB m { x with line := 31 }).x with K := 0 }).1), I (beginG { (stepB m { x with line := 31 }).x with K := 0 }).2, B true], objs LM t tw (stepB m { x with line := 31 }).m)) none))) none := by kernel_rfl
theorem nG_32 (m : Mm) (x : Wk) (t tw : TypeId) : sxFn (E1039p (Ω := SV × SH)) (An A1039p 2) C1039 [.ptr 0 0, .agg (I 32 :: encT x)] (objs LM t tw m) (KF 2) =
    br (okM m && okW { x with line := 32 }) (br ((stepB m { x with line := 32 }).way == 0) (some (.tup [.agg (encW (stepB m { x with line := 32 }).x), I (stepB m { x with line := 32 }).way, B true], objs LM t tw (stepB m { x with line := 32 }).m)) (br ((stepB m { x with line := 32 }).way == 2) (some (.tup [.agg (encW { (stepB m { x with line := 32 }).x with line := 30 }), I 0, B true], objs LM t tw (stepB m { x with line := 32 }).m)) (br (shW { (stepB m { x with line := 32 }).x with K := 0 }) (some (.tup [.agg (encW (beginG { (stepB m { x with line := 32 }).x with K := 0 }).1), I (beginG { (stepB m { x with line := 32 }).x with K := 0 }).2, B true], objs LM t tw (stepB m { x with line := 32 }).m)) none))) none := by kernel_rfl
theorem nG_39 (m : Mm) (x : Wk) (t tw : TypeId) : sxFn (E1039p (Ω := SV × SH)) (An A1039p 2) C1039 [.ptr 0 0, .agg (I 39 :: encT x)] (objs LM t tw m) (KF 2) =
    br (okM m && okW { x with line := 39 }) (br ((stepB m { x with line := 39 }).way == 0) (some (.tup [.agg (encW (stepB m { x with line := 39 }).x), I (stepB m { x with line := 39 }).way, B true], objs LM t tw (stepB m { x with line := 39 }).m)) (br ((stepB m { x with line := 39 }).way == 2) (some (.tup [.agg (encW { (stepB m { x with line := 39 }).x with line := 30 }), I 0, B true], objs LM t tw (stepB m { x with line := 39 }).m)) (br (shW (stepB m { x with line := 39 }).x) (br (!(rackP (stepB m { x with line := 39 }).m.c (stepB m { x with line := 39 }).x (w64' ((stepB m { x with line := 39 }).x.K - 1))).2) (some (.tup [.agg (encW { (stepB m { x with line := 39 }).x with line := 13 }), I 0, B true], objs LM t tw (stepB m { x with line := 39 }).m)) (br (shW { (rackP (stepB m { x with line := 39 }).m.c (stepB m { x with line := 39 }).x (w64' ((stepB m { x with line := 39 }).x.K - 1))).1 with K := 0 }) (some (.tup [.agg (encW (beginG { (rackP (stepB m { x with line := 39 }).m.c (stepB m { x with line := 39 }).x (w64' ((stepB m { x with line := 39 }).x.K - 1))).1 with K := 0 }).1), I (beginG { (rackP (stepB m { x with line := 39 }).m.c (stepB m { x with line := 39 }).x (w64' ((stepB m { x with line := 39 }).x.K - 1))).1 with K := 0 }).2, B true], objs LM t tw (stepB m { x with line := 39 }).m)) none)) none))) none := by kernel_rfl
abbrev OG (q : Int) : Prop := ∀ (m : Mm) (x : Wk) (t tw : TypeId), sxFn (E1039p (Ω := SV × SH)) (An A1039p 2) C1039 [.ptr 0 0, .agg (I q :: encT x)] (objs LM t tw m) (KF 2) = some (.tup [.agg (I q :: encT x), I 0, B false], objs LM t tw m)
theorem oG_neg (n : Nat) : OG (Int.negSucc n) := fun m x t tw => by kernel_rfl
theorem oG_top (n : Nat) : OG (Int.ofNat (n + 40)) := fun m x t tw => by kernel_rfl
theorem oG_0 : OG (Int.ofNat 0) := fun m x t tw => by kernel_rfl
theorem oG_1 : OG (Int.ofNat 1) := fun m x t tw => by kernel_rfl
theorem oG_2 : OG (Int.ofNat 2) := fun m x t tw => by kernel_rfl
theorem oG_3 : OG (Int.ofNat 3) := fun m x t tw => by kernel_rfl
theorem oG_4 : OG (Int.ofNat 4) := fun m x t tw => by kernel_rfl
theorem oG_5 : OG (Int.ofNat 5) := fun m x t tw => by kernel_rfl
theorem oG_6 : OG (Int.ofNat 6) := fun m x t tw => by kernel_rfl
theorem oG_7 : OG (Int.ofNat 7) := fun m x t tw => by kernel_rfl
theorem oG_8 : OG (Int.ofNat 8) := fun m x t tw => by kernel_rfl
theorem oG_9 : OG (Int.ofNat 9) := fun m x t tw => by kernel_rfl
theorem oG_10 : OG (Int.ofNat 10) := fun m x t tw => by kernel_rfl
theorem oG_11 : OG (Int.ofNat 11) := fun m x t tw => by kernel_rfl
theorem oG_12 : OG (Int.ofNat 12) := fun m x t tw => by kernel_rfl
theorem oG_16 : OG (Int.ofNat 16) := fun m x t tw => by kernel_rfl
theorem oG_17 : OG (Int.ofNat 17) := fun m x t tw => by kernel_rfl
theorem oG_18 : OG (Int.ofNat 18) := fun m x t tw => by kernel_rfl
theorem oG_19 : OG (Int.ofNat 19) := fun m x t tw => by kernel_rfl
theorem oG_20 : OG (Int.ofNat 20) := fun m x t tw => by kernel_rfl
theorem oG_21 : OG (Int.ofNat 21) := fun m x t tw => by kernel_rfl
theorem oG_22 : OG (Int.ofNat 22) := fun m x t tw => by kernel_rfl
theorem oG_23 : OG (Int.ofNat 23) := fun m x t tw => by kernel_rfl
theorem oG_24 : OG (Int.ofNat 24) := fun m x t tw => by kernel_rfl
theorem oG_25 : OG (Int.ofNat 25) := fun m x t tw => by kernel_rfl
theorem oG_26 : OG (Int.ofNat 26) := fun m x t tw => by kernel_rfl
theorem oG_27 : OG (Int.ofNat 27) := fun m x t tw => by kernel_rfl
theorem oG_28 : OG (Int.ofNat 28) := fun m x t tw => by kernel_rfl
theorem oG_29 : OG (Int.ofNat 29) := fun m x t tw => by kernel_rfl
theorem oG_33 : OG (Int.ofNat 33) := fun m x t tw => by kernel_rfl
theorem oG_34 : OG (Int.ofNat 34) := fun m x t tw => by kernel_rfl
theorem oG_35 : OG (Int.ofNat 35) := fun m x t tw => by kernel_rfl
theorem oG_36 : OG (Int.ofNat 36) := fun m x t tw => by kernel_rfl
theorem oG_37 : OG (Int.ofNat 37) := fun m x t tw => by kernel_rfl
theorem oG_38 : OG (Int.ofNat 38) := fun m x t tw => by kernel_rfl
theorem vG_13 {m : Mm} {x : Wk} {t tw : TypeId} (hm : okM m = true) (hx : okW x = true) (hs : (shW x && decide (x.rack.length < 999999)) = true) : sxFn (E1039p (Ω := SV × SH)) (An A1039p 2) C1039 [.ptr 0 0, .agg (I 13 :: encT x)] (objs LM t tw m) (KF 2) = some (.tup [.agg (encW (stepG m { x with line := 13 }).x), I (stepG m { x with line := 13 }).way, B (stepG m { x with line := 13 }).ok], objs LM t tw (stepG m { x with line := 13 }).m) := by
  simp only [Bool.and_eq_true, decide_eq_true_eq] at hs
  obtain ⟨hs, hr⟩ := hs
  have hx' : okW { x with line := 13 } = true := hx
  have hl := lst_S m { x with line := 13 }
  rw [nG_13, hm, hx']
  simp only [Bool.and_self, br_t, stepG, Int.reduceLE, Int.reduceEq, and_self, and_true, and_false, false_and, ↓reduceIte]
  generalize stepS m { x with line := 13 } = r at hl ⊢
  have h1 : shW r.x = true := (shW_lst hl).trans hs
  have h2 : shW { r.x with K := 0 } = true := h1
  rw [h2, br_t]
  cases h0 : r.way == 0 with
  | true => simp only [br_t, cond_true]; rw [eq_of_beq h0]
  | false =>
    cases h3 : r.way == 2 <;> simp only [br_t, br_f, cond_true, cond_false] <;> rfl
theorem vG_14 {m : Mm} {x : Wk} {t tw : TypeId} (hm : okM m = true) (hx : okW x = true) (hs : (shW x && decide (x.rack.length < 999999)) = true) : sxFn (E1039p (Ω := SV × SH)) (An A1039p 2) C1039 [.ptr 0 0, .agg (I 14 :: encT x)] (objs LM t tw m) (KF 2) = some (.tup [.agg (encW (stepG m { x with line := 14 }).x), I (stepG m { x with line := 14 }).way, B (stepG m { x with line := 14 }).ok], objs LM t tw (stepG m { x with line := 14 }).m) := by
  simp only [Bool.and_eq_true, decide_eq_true_eq] at hs
  obtain ⟨hs, hr⟩ := hs
  have hx' : okW { x with line := 14 } = true := hx
  have hl := lst_S m { x with line := 14 }
  rw [nG_14, hm, hx']
  simp only [Bool.and_self, br_t, stepG, Int.reduceLE, Int.reduceEq, and_self, and_true, and_false, false_and, ↓reduceIte]
  generalize stepS m { x with line := 14 } = r at hl ⊢
  have h1 : shW r.x = true := (shW_lst hl).trans hs
  have h2 : shW { r.x with K := 0 } = true := h1
  rw [h2, br_t]
  cases h0 : r.way == 0 with
  | true => simp only [br_t, cond_true]; rw [eq_of_beq h0]
  | false =>
    cases h3 : r.way == 2 <;> simp only [br_t, br_f, cond_true, cond_false] <;> rfl
theorem vG_15 {m : Mm} {x : Wk} {t tw : TypeId} (hm : okM m = true) (hx : okW x = true) (hs : (shW x && decide (x.rack.length < 999999)) = true) : sxFn (E1039p (Ω := SV × SH)) (An A1039p 2) C1039 [.ptr 0 0, .agg (I 15 :: encT x)] (objs LM t tw m) (KF 2) = some (.tup [.agg (encW (stepG m { x with line := 15 }).x), I (stepG m { x with line := 15 }).way, B (stepG m { x with line := 15 }).ok], objs LM t tw (stepG m { x with line := 15 }).m) := by
  simp only [Bool.and_eq_true, decide_eq_true_eq] at hs
  obtain ⟨hs, hr⟩ := hs
  have hx' : okW { x with line := 15 } = true := hx
  have hl := lst_S m { x with line := 15 }
  rw [nG_15, hm, hx']
  simp only [Bool.and_self, br_t, stepG, Int.reduceLE, Int.reduceEq, and_self, and_true, and_false, false_and, ↓reduceIte]
  generalize stepS m { x with line := 15 } = r at hl ⊢
  have h1 : shW r.x = true := (shW_lst hl).trans hs
  have h2 : shW { r.x with K := 0 } = true := h1
  rw [h2, br_t]
  cases h0 : r.way == 0 with
  | true => simp only [br_t, cond_true]; rw [eq_of_beq h0]
  | false =>
    cases h3 : r.way == 2 <;> simp only [br_t, br_f, cond_true, cond_false] <;> rfl
theorem vG_30 {m : Mm} {x : Wk} {t tw : TypeId} (hm : okM m = true) (hx : okW x = true) (hs : (shW x && decide (x.rack.length < 999999)) = true) : sxFn (E1039p (Ω := SV × SH)) (An A1039p 2) C1039 [.ptr 0 0, .agg (I 30 :: encT x)] (objs LM t tw m) (KF 2) = some (.tup [.agg (encW (stepG m { x with line := 30 }).x), I (stepG m { x with line := 30 }).way, B (stepG m { x with line := 30 }).ok], objs LM t tw (stepG m { x with line := 30 }).m) := by
  simp only [Bool.and_eq_true, decide_eq_true_eq] at hs
  obtain ⟨hs, hr⟩ := hs
  have hx' : okW { x with line := 30 } = true := hx
  have hl := lst_B m { x with line := 30 }
  rw [nG_30, hm, hx']
  simp only [Bool.and_self, br_t, stepG, Int.reduceLE, Int.reduceEq, and_self, and_true, and_false, false_and, ↓reduceIte]
  generalize stepB m { x with line := 30 } = r at hl ⊢
  have h1 : shW r.x = true := (shW_lst hl).trans hs
  have h2 : shW { r.x with K := 0 } = true := h1
  rw [h2, br_t]
  cases h0 : r.way == 0 with
  | true => simp only [br_t, cond_true]; rw [eq_of_beq h0]
  | false =>
    cases h3 : r.way == 2 <;> simp only [br_t, br_f, cond_true, cond_false] <;> rfl
theorem vG_31 {m : Mm} {x : Wk} {t tw : TypeId} (hm : okM m = true) (hx : okW x = true) (hs : (shW x && decide (x.rack.length < 999999)) = true) : sxFn (E1039p (Ω := SV × SH)) (An A1039p 2) C1039 [.ptr 0 0, .agg (I 31 :: encT x)] (objs LM t tw m) (KF 2) = some (.tup [.agg (encW (stepG m { x with line := 31 }).x), I (stepG m { x with line := 31 }).way, B (stepG m { x with line := 31 }).ok], objs LM t tw (stepG m { x with line := 31 }).m) := by
  simp only [Bool.and_eq_true, decide_eq_true_eq] at hs
  obtain ⟨hs, hr⟩ := hs
  have hx' : okW { x with line := 31 } = true := hx
  have hl := lst_B m { x with line := 31 }
  rw [nG_31, hm, hx']
  simp only [Bool.and_self, br_t, stepG, Int.reduceLE, Int.reduceEq, and_self, and_true, and_false, false_and, ↓reduceIte]
  generalize stepB m { x with line := 31 } = r at hl ⊢
  have h1 : shW r.x = true := (shW_lst hl).trans hs
  have h2 : shW { r.x with K := 0 } = true := h1
  rw [h2, br_t]
  cases h0 : r.way == 0 with
  | true => simp only [br_t, cond_true]; rw [eq_of_beq h0]
  | false =>
    cases h3 : r.way == 2 <;> simp only [br_t, br_f, cond_true, cond_false] <;> rfl
theorem vG_32 {m : Mm} {x : Wk} {t tw : TypeId} (hm : okM m = true) (hx : okW x = true) (hs : (shW x && decide (x.rack.length < 999999)) = true) : sxFn (E1039p (Ω := SV × SH)) (An A1039p 2) C1039 [.ptr 0 0, .agg (I 32 :: encT x)] (objs LM t tw m) (KF 2) = some (.tup [.agg (encW (stepG m { x with line := 32 }).x), I (stepG m { x with line := 32 }).way, B (stepG m { x with line := 32 }).ok], objs LM t tw (stepG m { x with line := 32 }).m) := by
  simp only [Bool.and_eq_true, decide_eq_true_eq] at hs
  obtain ⟨hs, hr⟩ := hs
  have hx' : okW { x with line := 32 } = true := hx
  have hl := lst_B m { x with line := 32 }
  rw [nG_32, hm, hx']
  simp only [Bool.and_self, br_t, stepG, Int.reduceLE, Int.reduceEq, and_self, and_true, and_false, false_and, ↓reduceIte]
  generalize stepB m { x with line := 32 } = r at hl ⊢
  have h1 : shW r.x = true := (shW_lst hl).trans hs
  have h2 : shW { r.x with K := 0 } = true := h1
  rw [h2, br_t]
  cases h0 : r.way == 0 with
  | true => simp only [br_t, cond_true]; rw [eq_of_beq h0]
  | false =>
    cases h3 : r.way == 2 <;> simp only [br_t, br_f, cond_true, cond_false] <;> rfl
theorem vG_39 {m : Mm} {x : Wk} {t tw : TypeId} (hm : okM m = true) (hx : okW x = true) (hs : (shW x && decide (x.rack.length < 999999)) = true) : sxFn (E1039p (Ω := SV × SH)) (An A1039p 2) C1039 [.ptr 0 0, .agg (I 39 :: encT x)] (objs LM t tw m) (KF 2) = some (.tup [.agg (encW (stepG m { x with line := 39 }).x), I (stepG m { x with line := 39 }).way, B (stepG m { x with line := 39 }).ok], objs LM t tw (stepG m { x with line := 39 }).m) := by
  simp only [Bool.and_eq_true, decide_eq_true_eq] at hs
  obtain ⟨hs, hr⟩ := hs
  have hx' : okW { x with line := 39 } = true := hx
  have hl := lst_B m { x with line := 39 }
  have hc := mc_B m { x with line := 39 }
  rw [nG_39, hm, hx']
  simp only [Bool.and_self, br_t, stepG, Int.reduceLE, Int.reduceEq, and_self, and_true, and_false, false_and, ↓reduceIte]
  generalize stepB m { x with line := 39 } = r at hl hc ⊢
  have h1 : shW r.x = true := (shW_lst hl).trans hs
  have h2 : shW { r.x with K := 0 } = true := h1
  rw [h1, br_t]
  cases h0 : r.way == 0 with
  | true => simp only [br_t, cond_true]; rw [eq_of_beq h0]
  | false =>
    cases h3 : r.way == 2 with
    | true => simp only [br_t, br_f, cond_true, cond_false]
    | false =>
      simp only [br_f, cond_false]
      have er : r.x.rack = x.rack := congrArg Ls.r hl
      unfold rackP
      rw [hc]
      cases h4 : decide ((r.x.rack.length : Int) ≥ m.c.f) with
      | true => simp only [cond_true, Bool.not_false, br_t]
      | false =>
        have h5 : shW { r.x with rack := r.x.rack ++ [w64' (r.x.K - 1)], K := 0 } = true := by
          obtain ⟨q1, q2, q3, q4, q5, q6⟩ := shW_all h1
          simp only [shW, Bool.and_eq_true, decide_eq_true_eq, List.length_append, List.length_cons, List.length_nil]
          rw [er] at q1 ⊢
          exact ⟨by omega, q2, q3, q4, q5, q6⟩
        simp only [cond_false, Bool.not_true, br_f]
        rw [h5, br_t]
        rfl
theorem mG_no {m : Mm} {x : Wk} (h : x.line ≠ 13 ∧ x.line ≠ 14 ∧ x.line ≠ 15 ∧ x.line ≠ 30 ∧ x.line ≠ 31 ∧ x.line ≠ 32 ∧ x.line ≠ 39) : stepG m x = ⟨m, x, 0, false⟩ := by
  have h1 : ¬ (13 ≤ x.line ∧ x.line ≤ 15) := by omega
  have h2 : ¬ (30 ≤ x.line ∧ x.line ≤ 32) := by omega
  simp only [stepG, h1, h2, h, ↓reduceIte]
theorem vG {m : Mm} {x : Wk} {t tw : TypeId} (hm : okM m = true) (hx : okW x = true) (hs : (shW x && decide (x.rack.length < 999999)) = true) : sxFn (E1039p (Ω := SV × SH)) (An A1039p 2) C1039 [.ptr 0 0, .agg (encW x)] (objs LM t tw m) (KF 2) = some (.tup [.agg (encW (stepG m x).x), I (stepG m x).way, B (stepG m x).ok], objs LM t tw (stepG m x).m) := by
  have no : ∀ q : Int, x.line = q → OG q → (x.line ≠ 13 ∧ x.line ≠ 14 ∧ x.line ≠ 15 ∧ x.line ≠ 30 ∧ x.line ≠ 31 ∧ x.line ≠ 32 ∧ x.line ≠ 39) → sxFn (E1039p (Ω := SV × SH)) (An A1039p 2) C1039 [.ptr 0 0, .agg (encW x)] (objs LM t tw m) (KF 2) = some (.tup [.agg (encW (stepG m x).x), I (stepG m x).way, B (stepG m x).ok], objs LM t tw (stepG m x).m) := fun q hq ho hn => by
    rw [mG_no hn]
    have := ho m x t tw
    rw [← hq] at this
    exact this
  have ye : ∀ q : Int, x.line = q → (sxFn (E1039p (Ω := SV × SH)) (An A1039p 2) C1039 [.ptr 0 0, .agg (I q :: encT x)] (objs LM t tw m) (KF 2) = some (.tup [.agg (encW (stepG m { x with line := q }).x), I (stepG m { x with line := q }).way, B (stepG m { x with line := q }).ok], objs LM t tw (stepG m { x with line := q }).m)) → sxFn (E1039p (Ω := SV × SH)) (An A1039p 2) C1039 [.ptr 0 0, .agg (encW x)] (objs LM t tw m) (KF 2) = some (.tup [.agg (encW (stepG m x).x), I (stepG m x).way, B (stepG m x).ok], objs LM t tw (stepG m x).m) := fun q hq h => by
    have e1 : { x with line := q } = x := by rw [← hq]
    have e : I q :: encT x = encW x := by simp only [encW]; rw [hq]
    rw [e1, e] at h
    exact h
  rcases hl : x.line with n | n
  · by_cases hn : 40 ≤ n
    · obtain ⟨k, rfl⟩ : ∃ k, n = k + 40 := ⟨n - 40, by omega⟩
      exact no _ hl (oG_top k) (by rw [hl]; simp only [Int.ofNat_eq_natCast, ne_eq]; omega)
    · have : n < 40 := by omega
      match n, hl, this with
      | 0, hl, _ => exact no _ hl oG_0 (by rw [hl]; simp only [Int.ofNat_eq_natCast, ne_eq]; omega)
      | 1, hl, _ => exact no _ hl oG_1 (by rw [hl]; simp only [Int.ofNat_eq_natCast, ne_eq]; omega)
      | 2, hl, _ => exact no _ hl oG_2 (by rw [hl]; simp only [Int.ofNat_eq_natCast, ne_eq]; omega)
      | 3, hl, _ => exact no _ hl oG_3 (by rw [hl]; simp only [Int.ofNat_eq_natCast, ne_eq]; omega)
      | 4, hl, _ => exact no _ hl oG_4 (by rw [hl]; simp only [Int.ofNat_eq_natCast, ne_eq]; omega)
      | 5, hl, _ => exact no _ hl oG_5 (by rw [hl]; simp only [Int.ofNat_eq_natCast, ne_eq]; omega)
      | 6, hl, _ => exact no _ hl oG_6 (by rw [hl]; simp only [Int.ofNat_eq_natCast, ne_eq]; omega)
      | 7, hl, _ => exact no _ hl oG_7 (by rw [hl]; simp only [Int.ofNat_eq_natCast, ne_eq]; omega)
      | 8, hl, _ => exact no _ hl oG_8 (by rw [hl]; simp only [Int.ofNat_eq_natCast, ne_eq]; omega)
      | 9, hl, _ => exact no _ hl oG_9 (by rw [hl]; simp only [Int.ofNat_eq_natCast, ne_eq]; omega)
      | 10, hl, _ => exact no _ hl oG_10 (by rw [hl]; simp only [Int.ofNat_eq_natCast, ne_eq]; omega)
      | 11, hl, _ => exact no _ hl oG_11 (by rw [hl]; simp only [Int.ofNat_eq_natCast, ne_eq]; omega)
      | 12, hl, _ => exact no _ hl oG_12 (by rw [hl]; simp only [Int.ofNat_eq_natCast, ne_eq]; omega)
      | 13, hl, _ => exact ye 13 hl (vG_13 hm hx hs)
      | 14, hl, _ => exact ye 14 hl (vG_14 hm hx hs)
      | 15, hl, _ => exact ye 15 hl (vG_15 hm hx hs)
      | 16, hl, _ => exact no _ hl oG_16 (by rw [hl]; simp only [Int.ofNat_eq_natCast, ne_eq]; omega)
      | 17, hl, _ => exact no _ hl oG_17 (by rw [hl]; simp only [Int.ofNat_eq_natCast, ne_eq]; omega)
      | 18, hl, _ => exact no _ hl oG_18 (by rw [hl]; simp only [Int.ofNat_eq_natCast, ne_eq]; omega)
      | 19, hl, _ => exact no _ hl oG_19 (by rw [hl]; simp only [Int.ofNat_eq_natCast, ne_eq]; omega)
      | 20, hl, _ => exact no _ hl oG_20 (by rw [hl]; simp only [Int.ofNat_eq_natCast, ne_eq]; omega)
      | 21, hl, _ => exact no _ hl oG_21 (by rw [hl]; simp only [Int.ofNat_eq_natCast, ne_eq]; omega)
      | 22, hl, _ => exact no _ hl oG_22 (by rw [hl]; simp only [Int.ofNat_eq_natCast, ne_eq]; omega)
      | 23, hl, _ => exact no _ hl oG_23 (by rw [hl]; simp only [Int.ofNat_eq_natCast, ne_eq]; omega)
      | 24, hl, _ => exact no _ hl oG_24 (by rw [hl]; simp only [Int.ofNat_eq_natCast, ne_eq]; omega)
      | 25, hl, _ => exact no _ hl oG_25 (by rw [hl]; simp only [Int.ofNat_eq_natCast, ne_eq]; omega)
      | 26, hl, _ => exact no _ hl oG_26 (by rw [hl]; simp only [Int.ofNat_eq_natCast, ne_eq]; omega)
      | 27, hl, _ => exact no _ hl oG_27 (by rw [hl]; simp only [Int.ofNat_eq_natCast, ne_eq]; omega)
      | 28, hl, _ => exact no _ hl oG_28 (by rw [hl]; simp only [Int.ofNat_eq_natCast, ne_eq]; omega)
      | 29, hl, _ => exact no _ hl oG_29 (by rw [hl]; simp only [Int.ofNat_eq_natCast, ne_eq]; omega)
      | 30, hl, _ => exact ye 30 hl (vG_30 hm hx hs)
      | 31, hl, _ => exact ye 31 hl (vG_31 hm hx hs)
      | 32, hl, _ => exact ye 32 hl (vG_32 hm hx hs)
      | 33, hl, _ => exact no _ hl oG_33 (by rw [hl]; simp only [Int.ofNat_eq_natCast, ne_eq]; omega)
      | 34, hl, _ => exact no _ hl oG_34 (by rw [hl]; simp only [Int.ofNat_eq_natCast, ne_eq]; omega)
      | 35, hl, _ => exact no _ hl oG_35 (by rw [hl]; simp only [Int.ofNat_eq_natCast, ne_eq]; omega)
      | 36, hl, _ => exact no _ hl oG_36 (by rw [hl]; simp only [Int.ofNat_eq_natCast, ne_eq]; omega)
      | 37, hl, _ => exact no _ hl oG_37 (by rw [hl]; simp only [Int.ofNat_eq_natCast, ne_eq]; omega)
      | 38, hl, _ => exact no _ hl oG_38 (by rw [hl]; simp only [Int.ofNat_eq_natCast, ne_eq]; omega)
      | 39, hl, _ => exact ye 39 hl (vG_39 hm hx hs)
      | n + 40, _, h => exact absurd h (by omega)
  · exact no _ hl (oG_neg n) (by rw [hl]; simp only [ne_eq]; omega)
theorem nG_nil (x : Wk) : sxFn (E1039p (Ω := SV × SH)) (An A1039p 0) C1039 [.d (.v (.pointer none)), .agg (encW x)] [] (KF 0) = some (.tup [.agg (encW x), I 0, B false], []) := by kernel_rfl
def GG (m : Mm) (l : List SV) : Option (Bool × SV × Mm) := match l with
  | [a] => match argW a with
    | some x => some (okM m && okW x && (shW x && decide (x.rack.length < 999999)), .tup [.agg (encW (stepG m x).x), I (stepG m x).way, B (stepG m x).ok], (stepG m x).m)
    | none => none
  | _ => none
def GGn (l : List SV) : Option SV := match l with
  | [a] => match argW a with
    | some x => some (.tup [.agg (encW x), I 0, B false])
    | none => none
  | _ => none
def S1039m {Ω : Type} : Spec Ω := memSpecW [none, some ctsW] (findM LM.own) [0, 1] (memF LM GG GGn)
theorem g1039m : Good1 Try.prog 9 S1039m := memFGoodF (A := A1039p) Try.func9 (by kernel_rfl) c1039 e1039p mix (L := LM) lay_M (fun m xs r m' t tw h => by
  unfold GG at h
  split at h
  · split at h
    · rename_i y e
      simp only [Option.some.injEq, Prod.mk.injEq] at h
      obtain ⟨hh, rfl, rfl⟩ := h
      rw [Bool.and_eq_true, Bool.and_eq_true] at hh
      rw [argW_eq e]
      exact ⟨_, LeV.refl _, vG hh.1.1 hh.1.2 hh.2⟩
    · cases h
  · cases h) (fun xs r h => by
  unfold GGn at h
  split at h
  · split at h
    · rename_i y e
      simp only [Option.some.injEq] at h
      subst h
      rw [argW_eq e]
      exact nG_nil _
    · cases h
  · cases h)
end Go.Sx.Pr
