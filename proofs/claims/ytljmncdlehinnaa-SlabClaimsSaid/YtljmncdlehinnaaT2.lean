/- Contracts with memory of functions that leave some of the locs as they are. -/
import Derived.Test.YtljmncdlehinnaaR1
import Derived.Test.YtljmncdlehinnaaQ3
import Derived.Test.YtljmncdlehinnaaPA
import Derived.Test.YtljmncdlehinnaaRows
import Derived.KernelRfl
import Derived.Test.YtljmncdlehinnaaR12
import Derived.Test.YtljmncdlehinnaaR12
import Derived.Test.YtljmncdlehinnaaR12
import Derived.Test.YtljmncdlehinnaaQ3
set_option linter.all false
set_option linter.unusedVariables false
set_option linter.unusedSimpArgs false
set_option linter.unnecessarySimpa false
namespace Go.Sx

theorem locC_idx {ls : List Nat} {n l i : Nat} (h : idx l ls 0 = some i) : locC ls n i = l := by
  obtain ⟨_, h2, h3⟩ := idx_some h
  simp only [Nat.sub_zero] at h2 h3
  unfold locC
  rw [show Nat.blt i ls.length = true from Nat.ble_eq_true_of_le h2]
  exact h3

 mutual
theorem ren_unr {ls : List Nat} {n : Nat} : ∀ (x y : SV), unr ls x = some y → ren (locC ls n) y = x
  | .d x, y, e | .rp sz g o, y, e | .top, y, e => by simp only [unr, Option.some.injEq] at e; subst e; simp only [ren]
  | .ptr l o, y, e => by
      simp only [unr] at e; obtain ⟨i, h1, rfl⟩ := onI_some e; simp only [ren, locC_idx h1]
  | .pe l j o, y, e => by
      simp only [unr] at e; obtain ⟨i, h1, rfl⟩ := onI_some e; simp only [ren, locC_idx h1]
  | .own l, y, e => by
      simp only [unr] at e; obtain ⟨i, h1, rfl⟩ := onI_some e; simp only [ren, locC_idx h1]
  | .cs l o sz m c, y, e => by
      simp only [unr] at e; obtain ⟨i, h1, rfl⟩ := onI_some e; simp only [ren, locC_idx h1]
  | .mp l, y, e => by
      simp only [unr] at e; obtain ⟨i, h1, rfl⟩ := onI_some e; simp only [ren, locC_idx h1]
  | .fn g a b, y, e => by
      simp only [unr] at e
      split at e
      · rename_i a' b' ha hb
        simp only [Option.some.injEq] at e; subst e
        simp only [ren, renL_unr a a' ha, renL_unr b b' hb]
      · cases e
  | .agg c, y, e => by
      simp only [unr] at e
      split at e
      · rename_i c' hc
        simp only [Option.some.injEq] at e; subst e
        simp only [ren, renL_unr c c' hc]
      · cases e
  | .tup c, y, e => by
      simp only [unr] at e
      split at e
      · rename_i c' hc
        simp only [Option.some.injEq] at e; subst e
        simp only [ren, renL_unr c c' hc]
      · cases e
theorem renL_unr {ls : List Nat} {n : Nat} : ∀ (x y : List SV), unrL ls x = some y → renL (locC ls n) y = x
  | [], y, e => by simp only [unrL, Option.some.injEq] at e; subst e; simp only [renL]
  | x :: r, y, e => by
      simp only [unrL] at e
      split at e
      · rename_i y' s' h1 h2
        simp only [Option.some.injEq] at e; subst e
        simp only [renL, ren_unr x y' h1, renL_unr r s' h2]
      · cases e
end
theorem renO_unr {ls : List Nat} {n : Nat} {o o' : SO} (e : unrO ls o = some o') : renO (locC ls n) o' = o := by
  cases o with
  | cells t c =>
    simp only [unrO] at e
    split at e
    · rename_i c' hc
      simp only [Option.some.injEq] at e; subst e
      simp only [renO, renL_unr c c' hc]
    · cases e
  | maps es => cases e
  | dead => simp only [unrO, Option.some.injEq] at e; subst e; rfl
  | rowi t k xs => simp only [unrO, Option.some.injEq] at e; subst e; rfl
  | row t sz n f => simp only [unrO, Option.some.injEq] at e; subst e; rfl
  | mapi k es => simp only [unrO, Option.some.injEq] at e; subst e; rfl
  | mapb es => simp only [unrO, Option.some.injEq] at e; subst e; rfl

def altsW {Ω : Type} (ls wr sc : List Nat) (k : SV → List Nat → List Nat → SH → Option Ω) (h : SH) : List Alt → Option Ω
  | [] => none
  | (g, r, h1) :: rest => br g (bif Nat.ble ls.length h1.length then k (ren (locC ls h.length) r) wr sc (setLs h ls (renH (locC ls h.length) h1) ++ (renH (locC ls h.length) h1).drop ls.length) else none) (altsW ls wr sc k h rest)

/-- wr: the places of the locs that it may write. -/
def memSpecW (ts : List (Option (List CT))) (find : SH → List SV → Option (List Nat)) (wr : List Nat) (F : List SV → SH → List Alt) {Ω : Type} : Spec Ω := fun args h k =>
  match find h args with
  | none => none
  | some ls => match nrmA ls ts args, unrH ls h ls with
    | some a0, some h0 => bif okLs h.length ls then altsW ls (wr.map fun i => ls.getD i 0) [] k h (F a0 h0) else none
    | _, _ => none

theorem altsW_first {Ω : Type} {ls wr sc : List Nat} {k : SV → List Nat → List Nat → SH → Option Ω} {h : SH} {out : Ω} : ∀ {L : List Alt}, altsW ls wr sc k h L = some out → ∃ r h1, firstAlt L = some (r, h1) ∧ ls.length ≤ h1.length ∧ k (ren (locC ls h.length) r) wr sc (setLs h ls (renH (locC ls h.length) h1) ++ (renH (locC ls h.length) h1).drop ls.length) = some out
  | [], e => by cases e
  | (g, r, h1) :: rest, e => by
    cases g with
    | true =>
      simp only [altsW, br, cond_true] at e
      obtain ⟨e1, e2⟩ := cond_some e
      exact ⟨r, h1, rfl, Nat.le_of_ble_eq_true e1, e2⟩
    | false =>
      obtain ⟨r', hr', h1, h2⟩ := altsW_first (L := rest) e
      exact ⟨r', hr', h1, h2⟩

theorem altsW_of {Ω : Type} {ls wr sc : List Nat} {k : SV → List Nat → List Nat → SH → Option Ω} {h : SH} : ∀ {L : List Alt} {r : SV} {h1 : SH}, firstAlt L = some (r, h1) → ls.length ≤ h1.length → altsW ls wr sc k h L = k (ren (locC ls h.length) r) wr sc (setLs h ls (renH (locC ls h.length) h1) ++ (renH (locC ls h.length) h1).drop ls.length)
  | [], r, hr, e, _ => by cases e
  | (g, r', hr') :: rest, r, hr, e, hl => by
    cases g with
    | true =>
      simp only [firstAlt, cond_true, Option.some.injEq, Prod.mk.injEq] at e
      obtain ⟨rfl, rfl⟩ := e
      simp only [altsW, br, cond_true]
      rw [Nat.ble_eq_true_of_le hl]
      rfl
    | false => exact altsW_of (L := rest) e hl

theorem memW_par {ts : List (Option (List CT))} {find : SH → List SV → Option (List Nat)} {wr : List Nat} {F : List SV → SH → List Alt} {Ω Ω' : Type} : SpecPar (memSpecW ts find wr F (Ω := Ω)) (memSpecW ts find wr F (Ω := Ω')) := by
  intro args h k out hs
  unfold memSpecW at hs ⊢
  split at hs
  · cases hs
  · rename_i ls hls
    split at hs
    · rename_i a0 h0 ha hh
      obtain ⟨e1, hs⟩ := cond_some hs
      obtain ⟨r, h1, k1, k2, k3⟩ := altsW_first hs
      refine ⟨_, _, _, _, k3, fun k' => ?_⟩
      simp only [e1, cond_true]
      exact altsW_of k1 k2
    · cases hs

theorem aside_nil {ls : List Nat} : ∀ {h : SH} {i : Nat}, aside ls [] i h = true
  | [], _ => rfl
  | o :: r, i => by
    simp only [aside, Bool.and_eq_true, Bool.or_eq_true, Bool.not_eq_true']
    refine ⟨.inr ?_, aside_nil⟩
    have : (fun l => nmem l []) = fun _ => false := funext fun l => by simp [nmem]
    rw [this]; exact mentO_none o

theorem memGoodW {P : Program} {g : Nat} {fn : Func} (hf : P.funcs[g]? = some fn) (hname : (fn.name == "runtime.NumGoroutine") = false) {C : CF} (hC : coF P fn = some C) {A : Ann} {e : {Ω : Type} → Env Ω} (he : GoodE P e) (hmix : P.follows .mixedOrders = true)
    {ts : List (Option (List CT))} {find : SH → List SV → Option (List Nat)} {wr : List Nat} {F : List SV → SH → List Alt}
    (hrun : ∀ a0 h0 r h1, firstAlt (F a0 h0) = some (r, h1) → (∀ i, i < h0.length → nmem i wr = false → hget h1 i = hget h0 i) ∧ ∃ r0 hr0 H, LeV r0 r ∧ RowEq hr0 h1 ∧ trim h0.length r0 (List.range h0.length) H = hr0 ∧
      sxFn (e (Ω := SV × SH)) { A with n0 := h0.length, ap := [] } C a0 h0 (fun r h => some (r, h)) = some (r0, H)) :
    Good1 P g (fun {Ω} => memSpecW ts find wr F (Ω := Ω)) := by
  have hbody : ∃ c, fn.body = some c := by
    unfold coF at hC
    split at hC
    · rename_i c hb; exact ⟨c, hb⟩
    · cases hC
  obtain ⟨c, hb⟩ := hbody
  have henter : ∀ (args : Array Value) (w : World), (callFunc g args).run P w = .ok (.enter g args) w := fun args w => by
    have h1 : fn.name ≠ "runtime.NumGoroutine" := by simpa using hname
    simp [callFunc, hf, h1, hb]
  refine ⟨fun Ω => ⟨henter, fun args h k out hs => ?_⟩, fun Ω Ω' => memW_par⟩
  unfold memSpecW at hs
  split at hs
  · cases hs
  · rename_i ls hls
    split at hs
    · rename_i a0 h0 ha hh
      obtain ⟨hok, hs⟩ := cond_some hs
      obtain ⟨r, h1, k1, k2, k3⟩ := altsW_first hs
      obtain ⟨hkeep, r0, hr0, H, hle, heq, htr, hrun⟩ := hrun a0 h0 r h1 k1
      have hlen := (unrH_get hh).1
      refine ⟨_, _, _, _, k3, ⟨by simp only [List.length_append, setLs_length]; omega, fun l hl hlm => ?_⟩, fun cx w vals hg hargs => ?_⟩
      · rw [hget_app, setLs_length, if_pos hl, setLs_get hok rfl (by rw [renH_length]; exact k2)]
        cases hi : idx l ls 0 with
        | none => rfl
        | some i =>
          obtain ⟨_, h2, h3⟩ := idx_some hi
          simp only [Nat.sub_zero] at h2 h3
          simp only
          have hni : nmem i wr = false := by
            cases hb : nmem i wr with
            | false => rfl
            | true =>
              have := nmem_map (ls := ls) hb
              rw [h3, hlm] at this; cases this
          have h4 := (unrH_get hh).2 i h2
          rw [renH_get, hkeep i (by omega) hni, renO_unr h4, h3]
      · have hcalls := fn_calls (A := { A with n0 := h0.length, ap := [] }) (he.ok _) hmix hf hC hrun (cxM cx h ls) w vals (gamM hg hok hh) (nrmA_ok ha hargs)
        refine hcalls.mono fun e w' ⟨v, cxq, e1, grq, hrq, hGq⟩ => ?_
        obtain ⟨cxs, hG, hr, hgrow⟩ := trim_sound (n0 := h0.length) (m := List.range h0.length) hGq hrq
        have gr := hgrow (by simp only [cxM, hlen]; exact Nat.le_refl _) grq
        rw [htr] at hG
        have hG' := hG.rowEq heq
        obtain ⟨q1, q2⟩ := back_gam (ap := []) hg hok (fun i hi => by cases hi) aside_nil (fun i hi hni => by
          simp only [Ann.p, Ann.ok, hni, Bool.or_false]
          cases hb : Nat.ble h0.length i with
          | false => rfl
          | true => have := Nat.le_of_ble_eq_true hb; omega) gr hG' k2
        exact ⟨v, _, e1, q1, SRep.ren (rnR hok (by have := hG'.n; omega)) _ _ (LeV.rep _ _ _ hle hr), q2⟩
    · cases hs
end Go.Sx

/- All: a copy of a memory's words. -/
namespace Go.Sx.Pr
open Go Go.Sx Go.Sx.Md Go.Proofs
set_option maxRecDepth 100000
theorem n33 {m : Mm} {t tw : TypeId} : sxFn (E33 (Ω := SV × SH)) (An A33 2) C33 [.ptr 0 0] (objs LM t tw m) (KT 2) = br (fits m.ws.length 8) (some (.own 2, [.cells t (LM.enc m), .rowi tw .u64 m.ws, .rowi 24 .u64 m.ws])) none := by kernel_rfl
def F33 : List SV → SH → List Alt := fun a0 h0 => match a0, h0 with
  | [.ptr 0 0], [.cells t c, .rowi tw .u64 ws] => bif isM c then [(fits ws.length 8, .own 2, [.cells t c, .rowi tw .u64 ws, .rowi 24 .u64 ws])] else []
  | _, _ => []
def S33c {Ω : Type} : Spec Ω := memSpecW [none] (findM 13) [] F33
theorem g33c : Good1 Try.prog 17 S33c := memGoodW (A := A33) Try.func17 (by kernel_rfl) c33 e33 mix fun a0 h0 r h1 hF => by
  unfold F33 at hF
  split at hF
  · rename_i t c tw ws
    obtain ⟨hc, hF⟩ := bif_nil rfl hF
    cases hl : fits ws.length 8 with
    | false => rw [hl] at hF; cases hF
    | true =>
      rw [hl] at hF
      simp only [firstAlt, cond_true, Option.some.injEq, Prod.mk.injEq] at hF
      obtain ⟨rfl, rfl⟩ := hF
      obtain ⟨e1, e2⟩ := lay_M c ws hc
      have hv := n33 (m := LM.dec c ws) (t := t) (tw := tw)
      rw [show objs LM t tw (LM.dec c ws) = [.cells t c, .rowi tw .u64 ws] by simp only [objs, e1, e2], e1, e2, hl, br_t] at hv
      obtain ⟨H, q3, q4⟩ := kt_of e33 hv
      refine ⟨fun i hi _ => ?_, _, _, H, LeV.refl _, RowEq.refl _, q3, q4⟩
      match i, hi with
      | 0, _ => rfl
      | 1, _ => rfl
      | i + 2, hi => exact absurd hi (by simp only [List.length_cons, List.length_nil]; omega)
  · cases hF
end Go.Sx.Pr

/- Contracts whose answer is a new row that nobody writes any more: data. -/
namespace Go.Sx

def firstD : List (Bool × Nat × Nat × (Nat → Nat → Value)) → Option (Nat × Nat × (Nat → Nat → Value))
  | [] => none
  | (g, x) :: rest => bif g then some x else firstD rest

end Go.Sx

/- All's list as data. -/
namespace Go.Sx.Pr
open Go Go.Sx Go.Sx.Md Go.Proofs
set_option maxRecDepth 100000
end Go.Sx.Pr

namespace Go.Sx.Pr
open Go Go.Sx Go.Proofs
set_option maxRecDepth 100000
def K18_1 : CC := .seq (.block 0 (.seq (.reg false [⟨some 14, .mv (.t 7), none, 0⟩,
     ⟨some 15, .eq .int true (.t 14) (.c (.d (.v (.int .i64 0)))), none, 0⟩,
     ⟨some 13, .mv (.t 15), none, 0⟩])
   (.cond 13 (.seq (.reg false [⟨some 16, .mv (.t 7), none, 0⟩,
       ⟨some 4, .mv (.c (.d (.v (.pointer none)))), none, 0⟩,
       ⟨some 5, .mv (.t 16), none, 0⟩])
     (.ret))
     (.seq (.reg false [⟨some 18, .mv (.t 1), none, 0⟩,
       ⟨some 19, .len (.t 18), none, 0⟩,
       ⟨some 20, .ld 8 true (.t 6), none, 0⟩,
       ⟨some 21, .call (.c (.fn (.func 86) [] [])) [.t 20], none, 0⟩,
       ⟨some 22, .eq .int true (.t 19) (.t 21), none, 0⟩,
       ⟨some 17, .mv (.t 22), none, 0⟩])
     (.cond 17 (.seq (.reg false [⟨some 4, .mv (.c (.d (.v (.pointer none)))), none, 0⟩,
         ⟨some 5, .mv (.c (.d (.v (.int .i64 3)))), none, 0⟩])
       (.ret))
       (.skip))))))
 (.seq (.reg true [⟨some 23, .ld 8 true (.t 6), none, 0⟩,
   ⟨some 24, .mv (.t 1), none, 0⟩,
   ⟨some 25, .call (.c (.fn (.func 63) [] [])) [.t 24], none, 2⟩,
   ⟨some 26, .bld [.d (.v (.int .i64 0)), .d (.v (.int .i64 0)), .d (.v (.int .i64 0)), .d (.v (.int .i64 0)), .d (.v (.int .i64 0)), .d (.v (.int .i64 0)), .d (.v (.int .i64 0)), .d (.v (.int .u64 0)), .d (.v (.int .i64 0)), .d (.v (.int .i64 0)), .d (.v (.int .u64 0)), .d (.v (.int .u64 0)), .d (.v (.int .u64 0)), .d (.v (.slice none 0 0))] [(0, 8, .t 23), (13, 1, .t 25)], none, 7⟩,
   ⟨some 27, .box 79 14 (.t 26), none, 15⟩,
   ⟨some 4, .mv (.t 27), none, 31⟩,
   ⟨some 5, .mv (.c (.d (.v (.int .i64 0)))), none, 63⟩])
 (.ret))
def K18_2 : CC := .reg false [⟨some 9, .ld 8 true (.t 2), none, 0⟩,
   ⟨some 10, .call (.c (.fn (.func 85) [] [])) [.t 9], none, 0⟩,
   ⟨some 8, .mv (.t 10), none, 0⟩,
   ⟨some 11, .ext 0 (.t 8), none, 0⟩,
   ⟨some 12, .ext 1 (.t 8), none, 0⟩,
   ⟨some 6, .newc 75 [.d (.v (.int .i64 0)), .d (.v (.int .i64 0)), .d (.v (.int .i64 0)), .d (.v (.int .i64 0)), .d (.v (.int .i64 0)), .d (.v (.int .i64 0)), .d (.v (.int .i64 0)), .d (.v (.int .u64 0))], none, 0⟩,
   ⟨none, .st 8 (.t 6) (.t 11), none, 0⟩,
   ⟨some 7, .mv (.t 12), none, 0⟩]
def K18_3 : CC := .reg false [⟨some 2, .box 26 8 (.t 0), none, 0⟩,
   ⟨some 4, .mv (.c (.d (.v (.pointer none)))), none, 0⟩,
   ⟨some 5, .mv (.c (.d (.v (.int .i64 0)))), none, 0⟩]
/-- coatcheck/memory.From -/
def C18 : CF := ⟨2, [(4, none), (5, none)],
 .seq K18_3 (.seq K18_2 K18_1)⟩
theorem c18 : coF Try.prog Try.f49 = some C18 := by kernel_rfl
def A18 : Ann := { keep := [0, 1, 2, 4, 5, 6, 7, 13, 17], live := [] }
def E18 {Ω : Type} : Env Ω := econs 63 S65 (econs 85 S63 (econs 86 S64 (enil)))
theorem e18 : GoodE Try.prog E18 := GoodE.cons g65 (GoodE.cons g63 (GoodE.cons g64 (GoodE.nil)))
def S18 {Ω : Type} : Spec Ω := inl E18 A18 C18 false
theorem g18 : Good1 Try.prog 49 S18 := Good1.inl e18 mix Try.func49 (by kernel_rfl) c18 A18 false
/-- coatcheck/memory.New -/
def C34 : CF := ⟨1, [(2, none), (3, none)],
 .seq (.reg false [⟨some 1, .box 26 8 (.t 0), none, 0⟩,
   ⟨some 2, .mv (.c (.d (.v (.pointer none)))), none, 0⟩,
   ⟨some 3, .mv (.c (.d (.v (.int .i64 0)))), none, 0⟩])
 (.seq (.reg true [⟨some 4, .ld 8 true (.t 1), none, 0⟩,
   ⟨some 5, .ld 8 true (.t 1), none, 0⟩,
   ⟨some 6, .call (.c (.fn (.func 50) [] [])) [.t 5], none, 2⟩,
   ⟨some 7, .call (.c (.fn (.func 49) [] [])) [.t 4, .t 6], none, 7⟩,
   ⟨some 8, .ext 0 (.t 7), none, 15⟩,
   ⟨some 9, .ext 1 (.t 7), none, 15⟩,
   ⟨some 2, .mv (.t 8), none, 63⟩,
   ⟨some 3, .mv (.t 9), none, 127⟩])
 (.ret))⟩
theorem c34 : coF Try.prog Try.f12 = some C34 := by kernel_rfl
def A34 : Ann := { keep := [0, 1, 2, 3], live := [] }
def E34 {Ω : Type} : Env Ω := econs 49 S18 (econs 50 S68 (enil))
theorem e34 : GoodE Try.prog E34 := GoodE.cons g18 (GoodE.cons g68 (GoodE.nil))
def S34 {Ω : Type} : Spec Ω := inl E34 A34 C34 false
theorem g34 : Good1 Try.prog 12 S34 := Good1.inl e34 mix Try.func12 (by kernel_rfl) c34 A34 false
def K124_1 : CC := .seq (.seq (.reg false [⟨some 15, .mv (.t 9), none, 0⟩,
   ⟨some 16, .eq .int true (.t 15) (.c (.d (.v (.int .i64 0)))), none, 0⟩,
   ⟨some 17, .mv (.t 16), none, 0⟩,
   ⟨some 18, .mv (.t 1), some (17, false), 0⟩,
   ⟨some 19, .len (.t 18), some (17, false), 0⟩,
   ⟨some 20, .ld 8 true (.t 8), some (17, false), 0⟩,
   ⟨some 21, .call (.c (.fn (.func 86) [] [])) [.t 20], some (17, false), 0⟩,
   ⟨some 22, .eq .int true (.t 19) (.t 21), some (17, false), 0⟩,
   ⟨some 23, .pick (.t 17) (.c (.d (.v (.bool true)))) (.t 22), none, 0⟩,
   ⟨some 24, .mv (.t 23), none, 0⟩,
   ⟨some 25, .ld 8 true (.t 8), some (24, false), 0⟩,
   ⟨some 26, .mv (.t 2), some (24, false), 0⟩,
   ⟨some 27, .call (.c (.fn (.func 56) [] [])) [.t 25, .t 26], some (24, false), 0⟩,
   ⟨some 28, .bin .lss (.t 27) (.c (.d (.v (.int .i64 0)))), some (24, false), 0⟩,
   ⟨some 29, .pick (.t 24) (.c (.d (.v (.bool true)))) (.t 28), none, 0⟩])
 (.cond 29 (.seq (.reg false [⟨some 6, .mv (.c (.d (.v (.int .u64 0)))), none, 0⟩,
     ⟨some 7, .mv (.c (.d (.v (.bool false)))), none, 0⟩])
   (.ret))
   (.skip)))
 (.seq (.reg false [⟨some 30, .mv (.t 1), none, 0⟩,
   ⟨some 31, .ld 8 true (.t 8), none, 0⟩,
   ⟨some 32, .mv (.t 2), none, 0⟩,
   ⟨some 33, .call (.c (.fn (.func 56) [] [])) [.t 31, .t 32], none, 0⟩,
   ⟨some 34, .ixs 1 (.t 30) (.t 33), none, 0⟩,
   ⟨some 35, .ld 1 false (.t 34), none, 0⟩,
   ⟨some 6, .mv (.t 35), none, 0⟩,
   ⟨some 7, .mv (.c (.d (.v (.bool true)))), none, 0⟩])
 (.ret))
def K124_2 : CC := .reg false [⟨some 11, .ld 8 true (.t 3), none, 0⟩,
   ⟨some 12, .call (.c (.fn (.func 85) [] [])) [.t 11], none, 0⟩,
   ⟨some 10, .mv (.t 12), none, 0⟩,
   ⟨some 13, .ext 0 (.t 10), none, 0⟩,
   ⟨some 14, .ext 1 (.t 10), none, 0⟩,
   ⟨some 8, .newc 75 [.d (.v (.int .i64 0)), .d (.v (.int .i64 0)), .d (.v (.int .i64 0)), .d (.v (.int .i64 0)), .d (.v (.int .i64 0)), .d (.v (.int .i64 0)), .d (.v (.int .i64 0)), .d (.v (.int .u64 0))], none, 0⟩,
   ⟨none, .st 8 (.t 8) (.t 13), none, 0⟩,
   ⟨some 9, .mv (.t 14), none, 0⟩]
def K124_3 : CC := .reg false [⟨some 3, .box 26 8 (.t 0), none, 0⟩,
   ⟨some 6, .mv (.c (.d (.v (.int .u64 0)))), none, 0⟩,
   ⟨some 7, .mv (.c (.d (.v (.bool false)))), none, 0⟩]
/-- coatcheck/slab.word -/
def C124 : CF := ⟨3, [(6, none), (7, none)],
 .seq K124_3 (.seq K124_2 K124_1)⟩
theorem c124 : coF Try.prog Try.f62 = some C124 := by kernel_rfl
def A124 : Ann := { keep := [0, 1, 2, 3, 6, 7, 8, 9, 29], live := [] }
def E124 {Ω : Type} : Env Ω := econs 56 S95 (econs 85 S63 (econs 86 S64 (enil)))
theorem e124 : GoodE Try.prog E124 := GoodE.cons g95 (GoodE.cons g63 (GoodE.cons g64 (GoodE.nil)))
def S124 {Ω : Type} : Spec Ω := inl E124 A124 C124 false
theorem g124 : Good1 Try.prog 62 S124 := Good1.inl e124 mix Try.func62 (by kernel_rfl) c124 A124 false
/-- coatcheck/slab.State -/
def C92 : CF := ⟨3, [(6, none)],
 .seq (.reg false [⟨some 3, .box 26 8 (.t 0), none, 0⟩,
   ⟨some 6, .mv (.c (.d (.v (.int .i64 0)))), none, 0⟩])
 (.seq (.reg false [⟨some 13, .ld 8 true (.t 3), none, 0⟩,
   ⟨some 14, .mv (.t 1), none, 0⟩,
   ⟨some 15, .mv (.t 2), none, 0⟩,
   ⟨some 16, .call (.c (.fn (.func 62) [] [])) [.t 13, .t 14, .t 15], none, 0⟩,
   ⟨some 12, .mv (.t 16), none, 0⟩,
   ⟨some 17, .ext 0 (.t 12), none, 0⟩,
   ⟨some 18, .ext 1 (.t 12), none, 0⟩,
   ⟨some 7, .mv (.t 17), none, 0⟩,
   ⟨some 8, .mv (.t 18), none, 0⟩])
 (.seq (.reg false [⟨some 20, .mv (.t 7), none, 0⟩,
   ⟨some 21, .call (.c (.fn (.func 54) [] [])) [.t 20], none, 0⟩,
   ⟨some 19, .mv (.t 21), none, 0⟩,
   ⟨some 22, .ext 0 (.t 19), none, 0⟩,
   ⟨some 23, .ext 1 (.t 19), none, 0⟩,
   ⟨some 24, .ext 2 (.t 19), none, 0⟩,
   ⟨some 9, .mv (.t 22), none, 0⟩,
   ⟨some 10, .mv (.t 23), none, 0⟩,
   ⟨some 11, .mv (.t 24), none, 0⟩])
 (.seq (.reg false [⟨some 25, .mv (.t 9), none, 0⟩,
   ⟨some 6, .mv (.t 25), none, 0⟩])
 (.ret))))⟩
theorem c92 : coF Try.prog Try.f16 = some C92 := by kernel_rfl
def A92 : Ann := { keep := [0, 1, 2, 3, 6, 7, 9], live := [] }
def E92 {Ω : Type} : Env Ω := econs 54 S94c (econs 62 S124 (enil))
theorem e92 : GoodE Try.prog E92 := GoodE.cons g94c (GoodE.cons g124 (GoodE.nil))
def S92 {Ω : Type} : Spec Ω := inl E92 A92 C92 false
theorem g92 : Good1 Try.prog 16 S92 := Good1.inl e92 mix Try.func16 (by kernel_rfl) c92 A92 false
def K60_1 : CC := .seq (.reg false [⟨some 30, .mv (.t 2), none, 0⟩,
   ⟨some 31, .ld 33 true (.t 4), none, 0⟩,
   ⟨some 32, .call (.c (.fn (.func 15) [] [])) [.t 30, .t 31], none, 0⟩,
   ⟨some 29, .mv (.t 32), none, 0⟩,
   ⟨some 33, .ext 0 (.t 29), none, 0⟩,
   ⟨some 34, .ext 1 (.t 29), none, 0⟩,
   ⟨some 35, .ext 2 (.t 29), none, 0⟩,
   ⟨some 7, .newc 40 [.d (.v (.int .i64 0)), .d (.v (.int .i64 0)), .d (.v (.int .u64 0)), .d (.v (.int .u64 0)), .d (.v (.int .i64 0)), .d (.v (.bool false)), .d (.v (.int .i64 0)), .d (.v (.int .i64 0)), .d (.v (.bool false)), .d (.v (.int .u64 0)), .d (.v (.slice none 0 0)), .d (.v (.int .u64 0)), .d (.v (.slice none 0 0)), .d (.v (.int .u64 0)), .d (.v (.slice none 0 0)), .d (.v (.int .u64 0)), .d (.v (.slice none 0 0)), .d (.v (.slice none 0 0)), .d (.v (.int .i64 0)), .d (.v (.int .i64 0)), .d (.v (.int .i64 0)), .d (.v (.int .i64 0)), .d (.v (.int .i64 0)), .d (.v (.int .u64 0)), .d (.v (.int .u64 0)), .d (.v (.int .u64 0)), .d (.v (.int .u64 0)), .d (.v (.int .u64 0)), .d (.v (.int .i64 0)), .d (.v (.slice none 0 0)), .d (.v (.int .u64 0)), .d (.v (.int .i64 0)), .d (.v (.bool false))], none, 0⟩,
   ⟨none, .st 33 (.t 7) (.t 33), none, 0⟩,
   ⟨some 8, .mv (.t 34), none, 0⟩,
   ⟨some 9, .mv (.t 35), none, 0⟩])
 (.seq (.reg true [⟨some 36, .mv (.t 5), none, 0⟩,
   ⟨some 37, .eq .int false (.t 36) (.c (.d (.v (.int .i64 0)))), none, 1⟩,
   ⟨some 38, .mv (.t 37), none, 3⟩,
   ⟨some 39, .mv (.t 8), some (38, true), 7⟩,
   ⟨some 40, .eq .int false (.t 39) (.c (.d (.v (.int .i64 1)))), some (38, true), 15⟩,
   ⟨some 41, .pick (.t 38) (.t 40) (.c (.d (.v (.bool false)))), none, 31⟩,
   ⟨some 42, .mv (.t 41), none, 63⟩,
   ⟨some 43, .ld 8 true (.t 1), some (42, true), 127⟩,
   ⟨some 44, .mv (.t 2), some (42, true), 127⟩,
   ⟨some 45, .call (.c (.fn (.func 17) [] [])) [.t 44], some (42, true), 383⟩,
   ⟨some 46, .call (.c (.fn (.func 16) [] [])) [.t 43, .t 45, .c (.d (.v (.int .i64 0)))], some (42, true), 1023⟩,
   ⟨some 47, .eq .int false (.t 46) (.c (.d (.v (.int .i64 1)))), some (42, true), 2047⟩,
   ⟨some 48, .pick (.t 42) (.t 47) (.c (.d (.v (.bool false)))), none, 4095⟩,
   ⟨some 0, .mv (.t 48), none, 8191⟩])
 (.ret))
def K60_2 : CC := .reg false [⟨some 23, .mv (.t 2), none, 0⟩,
   ⟨some 24, .bld [.d (.v (.int .i64 0)), .d (.v (.int .i64 0)), .d (.v (.int .u64 0)), .d (.v (.int .u64 0)), .d (.v (.int .i64 0)), .d (.v (.bool false)), .d (.v (.int .i64 0)), .d (.v (.int .i64 0)), .d (.v (.bool false)), .d (.v (.int .u64 0)), .d (.v (.slice none 0 0)), .d (.v (.int .u64 0)), .d (.v (.slice none 0 0)), .d (.v (.int .u64 0)), .d (.v (.slice none 0 0)), .d (.v (.int .u64 0)), .d (.v (.slice none 0 0)), .d (.v (.slice none 0 0)), .d (.v (.int .i64 0)), .d (.v (.int .i64 0)), .d (.v (.int .i64 0)), .d (.v (.int .i64 0)), .d (.v (.int .i64 0)), .d (.v (.int .u64 0)), .d (.v (.int .u64 0)), .d (.v (.int .u64 0)), .d (.v (.int .u64 0)), .d (.v (.int .u64 0)), .d (.v (.int .i64 0)), .d (.v (.slice none 0 0)), .d (.v (.int .u64 0)), .d (.v (.int .i64 0)), .d (.v (.bool false))] [(0, 1, .c (.d (.v (.int .i64 33))))], none, 0⟩,
   ⟨some 25, .call (.c (.fn (.func 15) [] [])) [.t 23, .t 24], none, 0⟩,
   ⟨some 22, .mv (.t 25), none, 0⟩,
   ⟨some 26, .ext 0 (.t 22), none, 0⟩,
   ⟨some 27, .ext 1 (.t 22), none, 0⟩,
   ⟨some 28, .ext 2 (.t 22), none, 0⟩,
   ⟨some 4, .newc 40 [.d (.v (.int .i64 0)), .d (.v (.int .i64 0)), .d (.v (.int .u64 0)), .d (.v (.int .u64 0)), .d (.v (.int .i64 0)), .d (.v (.bool false)), .d (.v (.int .i64 0)), .d (.v (.int .i64 0)), .d (.v (.bool false)), .d (.v (.int .u64 0)), .d (.v (.slice none 0 0)), .d (.v (.int .u64 0)), .d (.v (.slice none 0 0)), .d (.v (.int .u64 0)), .d (.v (.slice none 0 0)), .d (.v (.int .u64 0)), .d (.v (.slice none 0 0)), .d (.v (.slice none 0 0)), .d (.v (.int .i64 0)), .d (.v (.int .i64 0)), .d (.v (.int .i64 0)), .d (.v (.int .i64 0)), .d (.v (.int .i64 0)), .d (.v (.int .u64 0)), .d (.v (.int .u64 0)), .d (.v (.int .u64 0)), .d (.v (.int .u64 0)), .d (.v (.int .u64 0)), .d (.v (.int .i64 0)), .d (.v (.slice none 0 0)), .d (.v (.int .u64 0)), .d (.v (.int .i64 0)), .d (.v (.bool false))], none, 0⟩,
   ⟨none, .st 33 (.t 4) (.t 26), none, 0⟩,
   ⟨some 5, .mv (.t 27), none, 0⟩,
   ⟨some 6, .mv (.t 28), none, 0⟩]
def K60_3 : CC := .seq (.reg false [⟨some 16, .mv (.t 3), none, 0⟩,
   ⟨some 17, .eq .int true (.t 16) (.c (.d (.v (.int .i64 0)))), none, 0⟩,
   ⟨some 18, .mv (.t 17), none, 0⟩,
   ⟨some 19, .mv (.t 2), some (18, false), 0⟩,
   ⟨some 20, .eq .ptr false (.t 19) (.c (.d (.v (.pointer none)))), some (18, false), 0⟩,
   ⟨some 21, .pick (.t 18) (.c (.d (.v (.bool true)))) (.t 20), none, 0⟩])
 (.cond 21 (.seq (.reg false [⟨some 0, .mv (.c (.d (.v (.bool false)))), none, 0⟩])
   (.ret))
   (.skip))
def K60_4 : CC := .reg false [⟨some 12, .ld 8 true (.t 1), none, 0⟩,
   ⟨some 13, .call (.c (.fn (.func 12) [] [])) [.t 12], none, 0⟩,
   ⟨some 11, .mv (.t 13), none, 0⟩,
   ⟨some 14, .ext 0 (.t 11), none, 0⟩,
   ⟨some 15, .ext 1 (.t 11), none, 0⟩,
   ⟨some 2, .mv (.t 14), none, 0⟩,
   ⟨some 3, .mv (.t 15), none, 0⟩]
def K60_5 : CC := .reg false [⟨some 10, .bld [.d (.v (.int .i64 0)), .d (.v (.int .i64 0)), .d (.v (.int .i64 0)), .d (.v (.int .i64 0)), .d (.v (.int .i64 0)), .d (.v (.int .i64 0)), .d (.v (.int .i64 0)), .d (.v (.int .u64 0))] [(0, 1, .c (.d (.v (.int .i64 1)))), (1, 1, .c (.d (.v (.int .i64 1)))), (2, 1, .c (.d (.v (.int .i64 2)))), (3, 1, .c (.d (.v (.int .i64 1)))), (4, 1, .c (.d (.v (.int .i64 1)))), (6, 1, .c (.d (.v (.int .i64 1)))), (7, 1, .c (.d (.v (.int .u64 1))))], none, 0⟩,
   ⟨some 1, .newc 26 [.d (.v (.int .i64 0)), .d (.v (.int .i64 0)), .d (.v (.int .i64 0)), .d (.v (.int .i64 0)), .d (.v (.int .i64 0)), .d (.v (.int .i64 0)), .d (.v (.int .i64 0)), .d (.v (.int .u64 0))], none, 0⟩,
   ⟨none, .st 8 (.t 1) (.t 10), none, 0⟩]
def K60_6 : CC := .reg false [⟨some 0, .mv (.c (.d (.v (.bool false)))), none, 0⟩]
/-- coatcheck/coatchecklaw08.awake -/
def C60 : CF := ⟨0, [(0, none)],
 .seq K60_6 (.seq K60_5 (.seq K60_4 (.seq K60_3 (.seq K60_2 K60_1))))⟩
theorem c60 : coF Try.prog Try.f11 = some C60 := by kernel_rfl
def A60 : Ann := { keep := [0, 1, 2, 3, 4, 5, 8, 21], live := [] }
def E60 {Ω : Type} : Env Ω := econs 17 S33c (econs 12 S34 (econs 15 S61m (econs 16 S92 (enil))))
theorem e60 : GoodE Try.prog E60 := GoodE.cons g33c (GoodE.cons g34 (GoodE.cons g61m (GoodE.cons g92 (GoodE.nil))))
def S60 {Ω : Type} : Spec Ω := conSpec [] FTrue
theorem g60 : Good1 Try.prog 11 S60 := trueGood Try.func11 (by kernel_rfl) c60 (A := A60) e60 mix (by kernel_rfl)
end Go.Sx.Pr

/- Memory objects with their row's loc. -/
namespace Go.Sx.Pr
open Go Go.Sx Go.Sx.Md
def memC (c : Cf) (s : Ac) (o : Nat) : List SV := [I c.a, I c.b, I c.c, I c.d, I c.e, I c.f, I c.g, U c.l, I s.k, I s.a, U s.x, U s.y, U s.o, .own o]
end Go.Sx.Pr

/- The steps laws: what all of them need. -/
namespace Go.Sx.Pr
open Go Go.Sx Go.Sx.Md Go.Proofs
set_option maxRecDepth 100000

/-- True, with some heap. -/
def Tru (o : Option (SV × SH)) : Prop := ∃ H, o = some (B true, H)
theorem Tru.br {b : Bool} {x y : Option (SV × SH)} (h1 : b = true → Tru x) (h2 : b = false → Tru y) : Tru (br b x y) := by
  cases b with
  | true => exact h1 rfl
  | false => exact h2 rfl
theorem tru_ret {H : SH} : Tru (KS (B true) H) := ⟨H, rfl⟩

def szC (c : Cf) : Int := szZ c.a c.b c.c c.d c.e c.f c.g c.l

/-- What a step leaves well formed. -/
def Pres (m : Mm) (x : Wk) (r : SR) : Prop := okM r.m = true ∧ okW r.x = true ∧ lenW r.x = lenW x ∧ r.m.ws.length = m.ws.length ∧ r.m.c = m.c
theorem Pres.cond {m : Mm} {x : Wk} {a b : SR} {t : Bool} (ha : Pres m x a) (hb : Pres m x b) : Pres m x (bif t then a else b) := by
  cases t with
  | true => exact ha
  | false => exact hb
theorem len_mSet {m : Mm} {g : Bool} {a x : Int} : (mSet m g a x).length = m.ws.length := by
  unfold mSet
  cases g with
  | true => rw [cond_true, List.length_set]
  | false => rfl
theorem uB_low {v : Int} (h : uB v = true) : uB (v % 4294967296) = true := uB_mod h (by decide) (by decide)
theorem uB_one : uB 1 = true := by decide
theorem uB_two : uB 2 = true := by decide

section
variable {m : Mm} {x : Wk} (hm : okM m = true) (hx : okW x = true)
 include hm hx
theorem presB : Pres m x (stepB m x) := by
  obtain ⟨b1, b2, b3, b4, b5, b6, b7, b8, b9, b10, b11, b12⟩ := okW_all hx
  have hu := okM_u hm
  unfold stepB
  split
  · refine Pres.cond ?_ ?_
    · exact ⟨okM_add hm, (by simp only [okW, b1, b2, b3, b4, b5, b6, b7, b8, b9, b10, b11, b12, uB_load hu, uB_low (uB_load hu), Bool.and_self]), rfl, len_mSet, rfl⟩
    · exact ⟨okM_add hm, (by simp only [okW, b1, b2, b3, b4, b5, b6, b7, b8, b9, b10, b11, b12, uB_load hu, uB_low (uB_load hu), Bool.and_self]), rfl, len_mSet, rfl⟩
  · split
    · exact ⟨okM_load hm, (by simp only [okW, b1, b2, b3, b4, b5, b6, b7, b8, b9, b10, b11, b12, uB_load hu, uB_low (uB_load hu), Bool.and_self]), rfl, rfl, rfl⟩
    · split
      · exact ⟨okM_store hm uB_pSlab, (by simp only [okW, b1, b2, b3, b4, b5, b6, b7, b8, b9, b10, b11, b12, uB_load hu, uB_low (uB_load hu), Bool.and_self]), rfl, len_mSet, rfl⟩
      · split
        · refine Pres.cond ?_ ?_
          · exact ⟨okM_load hm, (by simp only [okW, b1, b2, b3, b4, b5, b6, b7, b8, b9, b10, b11, b12, uB_load hu, uB_low (uB_load hu), Bool.and_self]), rfl, rfl, rfl⟩
          · refine Pres.cond ?_ ?_
            · exact ⟨okM_load hm, (by simp only [okW, b1, b2, b3, b4, b5, b6, b7, b8, b9, b10, b11, b12, uB_load hu, uB_low (uB_load hu), Bool.and_self]), rfl, rfl, rfl⟩
            · exact ⟨okM_load hm, (by simp only [okW, b1, b2, b3, b4, b5, b6, b7, b8, b9, b10, b11, b12, uB_load hu, uB_low (uB_load hu), Bool.and_self]), rfl, rfl, rfl⟩
        · split
          · refine Pres.cond ?_ ?_
            · exact ⟨okM_cas hm uB_one, (by simp only [okW, b1, b2, b3, b4, b5, b6, b7, b8, b9, b10, b11, b12, uB_load hu, uB_low (uB_load hu), Bool.and_self]), rfl, len_mSet, rfl⟩
            · exact ⟨okM_cas hm uB_one, (by simp only [okW, b1, b2, b3, b4, b5, b6, b7, b8, b9, b10, b11, b12, uB_load hu, uB_low (uB_load hu), Bool.and_self]), rfl, len_mSet, rfl⟩
          · split
            · exact ⟨okM_load hm, (by simp only [okW, b1, b2, b3, b4, b5, b6, b7, b8, b9, b10, b11, b12, uB_load hu, uB_low (uB_load hu), Bool.and_self]), rfl, rfl, rfl⟩
            · split
              · refine Pres.cond ?_ ?_
                · exact ⟨okM_load hm, (by simp only [okW, b1, b2, b3, b4, b5, b6, b7, b8, b9, b10, b11, b12, uB_load hu, uB_low (uB_load hu), Bool.and_self]), rfl, rfl, rfl⟩
                · exact ⟨okM_load hm, (by simp only [okW, b1, b2, b3, b4, b5, b6, b7, b8, b9, b10, b11, b12, uB_load hu, uB_low (uB_load hu), Bool.and_self]), rfl, rfl, rfl⟩
              · split
                · refine Pres.cond ?_ ?_
                  · exact ⟨okM_cas hm uB_two, (by simp only [okW, b1, b2, b3, b4, b5, b6, b7, b8, b9, b10, b11, b12, uB_load hu, uB_low (uB_load hu), Bool.and_self]), rfl, len_mSet, rfl⟩
                  · exact ⟨okM_cas hm uB_two, (by simp only [okW, b1, b2, b3, b4, b5, b6, b7, b8, b9, b10, b11, b12, uB_load hu, uB_low (uB_load hu), Bool.and_self]), rfl, len_mSet, rfl⟩
                · split
                  · exact ⟨okM_load hm, (by simp only [okW, b1, b2, b3, b4, b5, b6, b7, b8, b9, b10, b11, b12, uB_load hu, uB_low (uB_load hu), Bool.and_self]), rfl, rfl, rfl⟩
                  · exact ⟨hm, hx, rfl, rfl, rfl⟩
end
end Go.Sx.Pr

/- Helpers: results with some heap, sizes, addresses. Plain Lean. -/
namespace Go.Sx.Pr
open Go Go.Sx Go.Sx.Md Go.Proofs
set_option maxRecDepth 100000

/-- A run's result, with some heap. -/
def GivesV (o : Option (SV × SH)) (r : SV) : Prop := ∃ H, o = some (r, H)
theorem givesV {r : SV} {H : SH} : GivesV (KS r H) r := ⟨H, rfl⟩
theorem GivesV.br {b : Bool} {x y : Option (SV × SH)} {r : SV} (h1 : b = true → GivesV x r) (h2 : b = false → GivesV y r) : GivesV (br b x y) r := by
  cases b with
  | true => exact h1 rfl
  | false => exact h2 rfl
theorem bang_t {x y : Int} (h : ¬ x = y) : (!x == y) = true := by simp [h]
theorem bang_f {x y : Int} (h : x = y) : (!x == y) = false := by simp [h]

theorem szC_eq {c : Cf} (h : chkC c = 0) : szC c = ((sizeN c.a.toNat c.b.toNat c.c.toNat c.d.toNat c.e.toNat : Nat) : Int) := by
  have h' : chk c.a c.b c.c c.d c.e c.f c.g c.l = 0 := h
  simp [szC, szZ, h']
theorem u64B_at {ws : List Int} (h : u64B ws = true) {i : Nat} (hi : i < ws.length) : 0 ≤ ws.getD i 0 ∧ ws.getD i 0 ≤ 18446744073709551615 := by
  rw [List.getD_eq_getElem?_getD, List.getElem?_eq_getElem hi]
  have := List.all_eq_true.1 h _ (List.getElem_mem hi)
  simpa using this
theorem u64B_all {ws : List Int} (h : u64B ws = true) (i : Nat) : uB (ws.getD i 0) = true := by
  rw [uB_iff]
  by_cases hi : i < ws.length
  · exact u64B_at h hi
  · rw [List.getD_eq_getElem?_getD, List.getElem?_eq_none (by omega)]; simp
theorem adr2 {c : Cf} (hc : chkC c = 0) (j : Int) : adr c 2 j = if 0 ≤ j ∧ j < c.b then 3 + c.a + j else -1 := at2 hc j
theorem inB_of' {i : Int} {n : Nat} (h0 : 0 ≤ i) (h1 : i < n) : inB i n = true := by simp only [inB, Bool.and_eq_true, decide_eq_true_eq]; exact ⟨h0, h1⟩
end Go.Sx.Pr

/- The contract of memory.New. -/
namespace Go.Sx.Pr
open Go Go.Sx Go.Sx.Md Go.Proofs
set_option maxRecDepth 100000

theorem n34 {Ω : Type} (it : Itr Ω) (K : SV → SH → Option Ω) (c : Cf) :
    sxFnI it E34 A34 C34 [.agg (encC c)] [] K =
    br (!chkC c == 0) (br (!chkC c == 0) (br (!chkC c == 0) (K (.tup [.d (DV.v (Value.pointer none)), I (chkC c)]) [.cells 26 (encC c)]) (K (.tup [.ptr 4 0, I 0]) [.cells 26 (encC c), .dead, .dead, .rowi 24 .u64 [], .cells 79 [I 0, I 0, I 0, I 0, I 0, I 0, I 0, U 0, I 0, I 0, U 0, U 0, U 0, .own 3]])) (br (!0 == szC c) (K (.tup [.d (DV.v (Value.pointer none)), I 3]) [.cells 26 (encC c)]) (K (.tup [.ptr 4 0, I 0]) [.cells 26 (encC c), .dead, .dead, .rowi 24 .u64 [], .cells 79 (memC c ac0 3)]))) (br (!chkC c == 0) (br (!chkC c == 0) (K (.tup [.d (DV.v (Value.pointer none)), I (chkC c)]) [.cells 26 (encC c), .dead, .dead, .rowi 24 .u64 (fl (sizeN (Int.toNat (Cf.a c)) (Int.toNat (Cf.b c)) (Int.toNat (Cf.c c)) (Int.toNat (Cf.d c)) (Int.toNat (Cf.e c))) (3 + Int.toNat (Cf.a c) + Int.toNat (Cf.b c)) (Int.toNat (Cf.e c)) (Int.toNat (Cf.e c)))]) (br (! (↑ (List.length (fl (sizeN (Int.toNat (Cf.a c)) (Int.toNat (Cf.b c)) (Int.toNat (Cf.c c)) (Int.toNat (Cf.d c)) (Int.toNat (Cf.e c))) (3 + Int.toNat (Cf.a c) + Int.toNat (Cf.b c)) (Int.toNat (Cf.e c)) (Int.toNat (Cf.e c)))) : Int) == 0) (K (.tup [.d (DV.v (Value.pointer none)), I 3]) [.cells 26 (encC c), .dead, .dead, .rowi 24 .u64 (fl (sizeN (Int.toNat (Cf.a c)) (Int.toNat (Cf.b c)) (Int.toNat (Cf.c c)) (Int.toNat (Cf.d c)) (Int.toNat (Cf.e c))) (3 + Int.toNat (Cf.a c) + Int.toNat (Cf.b c)) (Int.toNat (Cf.e c)) (Int.toNat (Cf.e c)))]) (br (fits (List.length (fl (sizeN (Int.toNat (Cf.a c)) (Int.toNat (Cf.b c)) (Int.toNat (Cf.c c)) (Int.toNat (Cf.d c)) (Int.toNat (Cf.e c))) (3 + Int.toNat (Cf.a c) + Int.toNat (Cf.b c)) (Int.toNat (Cf.e c)) (Int.toNat (Cf.e c)))) 8) (K (.tup [.ptr 7 0, I 0]) [.cells 26 (encC c), .dead, .dead, .rowi 24 .u64 (fl (sizeN (Int.toNat (Cf.a c)) (Int.toNat (Cf.b c)) (Int.toNat (Cf.c c)) (Int.toNat (Cf.d c)) (Int.toNat (Cf.e c))) (3 + Int.toNat (Cf.a c) + Int.toNat (Cf.b c)) (Int.toNat (Cf.e c)) (Int.toNat (Cf.e c))), .dead, .dead, .rowi 24 .u64 (fl (sizeN (Int.toNat (Cf.a c)) (Int.toNat (Cf.b c)) (Int.toNat (Cf.c c)) (Int.toNat (Cf.d c)) (Int.toNat (Cf.e c))) (3 + Int.toNat (Cf.a c) + Int.toNat (Cf.b c)) (Int.toNat (Cf.e c)) (Int.toNat (Cf.e c))), .cells 79 [I 0, I 0, I 0, I 0, I 0, I 0, I 0, U 0, I 0, I 0, U 0, U 0, U 0, .own 6]]) none))) (br (! (↑ (List.length (fl (sizeN (Int.toNat (Cf.a c)) (Int.toNat (Cf.b c)) (Int.toNat (Cf.c c)) (Int.toNat (Cf.d c)) (Int.toNat (Cf.e c))) (3 + Int.toNat (Cf.a c) + Int.toNat (Cf.b c)) (Int.toNat (Cf.e c)) (Int.toNat (Cf.e c)))) : Int) == szC c) (K (.tup [.d (DV.v (Value.pointer none)), I 3]) [.cells 26 (encC c), .dead, .dead, .rowi 24 .u64 (fl (sizeN (Int.toNat (Cf.a c)) (Int.toNat (Cf.b c)) (Int.toNat (Cf.c c)) (Int.toNat (Cf.d c)) (Int.toNat (Cf.e c))) (3 + Int.toNat (Cf.a c) + Int.toNat (Cf.b c)) (Int.toNat (Cf.e c)) (Int.toNat (Cf.e c)))]) (br (fits (List.length (fl (sizeN (Int.toNat (Cf.a c)) (Int.toNat (Cf.b c)) (Int.toNat (Cf.c c)) (Int.toNat (Cf.d c)) (Int.toNat (Cf.e c))) (3 + Int.toNat (Cf.a c) + Int.toNat (Cf.b c)) (Int.toNat (Cf.e c)) (Int.toNat (Cf.e c)))) 8) (K (.tup [.ptr 7 0, I 0]) [.cells 26 (encC c), .dead, .dead, .rowi 24 .u64 (fl (sizeN (Int.toNat (Cf.a c)) (Int.toNat (Cf.b c)) (Int.toNat (Cf.c c)) (Int.toNat (Cf.d c)) (Int.toNat (Cf.e c))) (3 + Int.toNat (Cf.a c) + Int.toNat (Cf.b c)) (Int.toNat (Cf.e c)) (Int.toNat (Cf.e c))), .dead, .dead, .rowi 24 .u64 (fl (sizeN (Int.toNat (Cf.a c)) (Int.toNat (Cf.b c)) (Int.toNat (Cf.c c)) (Int.toNat (Cf.d c)) (Int.toNat (Cf.e c))) (3 + Int.toNat (Cf.a c) + Int.toNat (Cf.b c)) (Int.toNat (Cf.e c)) (Int.toNat (Cf.e c))), .cells 79 (memC c ac0 6)]) none))) := by kernel_rfl

/-- A new memory's words. -/
def flC (c : Cf) : List Int := fl (sizeN c.a.toNat c.b.toNat c.c.toNat c.d.toNat c.e.toNat) (3 + c.a.toNat + c.b.toNat) c.e.toNat c.e.toNat
theorem flC_len {c : Cf} (h : chkC c = 0) : ((flC c).length : Int) = szC c := by unfold flC; rw [fl_length, szC_eq h]
theorem szC_le {c : Cf} (h : chkC c = 0) : szC c ≤ 1000 := by
  have := size_le (a := c.a) (b := c.b) (c := c.c) (d := c.d) (e := c.e) (f := c.f) (g := c.g) (l := c.l) h
  have h2 := szC_eq h
  omega
def NAlts (c : Cf) : List (Bool × SV × SH) :=
  [(!(chkC c == 0), .tup [.d (.v (.pointer none)), I (chkC c)], []), (true, .tup [.ptr 7 0, I 0], [.dead, .dead, .dead, .dead, .dead, .dead, .rowi 24 .u64 (flC c), .cells 79 (memC c ac0 6)])]
def F34 : List (List Int) → List (Bool × SV × SH)
  | [[a, b, c, d, e, f, g, l]] => NAlts ⟨a, b, c, d, e, f, g, l⟩
  | _ => []
def S34c {Ω : Type} : Spec Ω := conSpecL [.g cfgK] F34
theorem good34 {c : Cf} (h : chkC c = 0) : sxFn E34 A34 C34 [.agg (encC c)] [] KS = some (.tup [.ptr 7 0, I 0], [.cells 26 (encC c), .dead, .dead, .rowi 24 .u64 (flC c), .dead, .dead, .rowi 24 .u64 (flC c), .cells 79 (memC c ac0 6)]) := by
  have h1 := flC_len h
  have h2 := szC_le h
  rw [← sxFnI_eq, n34, bang_f h, br_f, br_f]
  rw [show fl (sizeN (Int.toNat (Cf.a c)) (Int.toNat (Cf.b c)) (Int.toNat (Cf.c c)) (Int.toNat (Cf.d c)) (Int.toNat (Cf.e c))) (3 + Int.toNat (Cf.a c) + Int.toNat (Cf.b c)) (Int.toNat (Cf.e c)) (Int.toNat (Cf.e c)) = flC c from rfl]
  rw [bang_f h1, br_f, fits_of (by omega), br_t]
theorem bad34 {c : Cf} (h : ¬ chkC c = 0) : sxFn E34 A34 C34 [.agg (encC c)] [] KS = some (.tup [.d (.v (.pointer none)), I (chkC c)], [.cells 26 (encC c)]) := by
  rw [← sxFnI_eq, n34, bang_t h, br_t, br_t, br_t]
theorem g34c : Good1 Try.prog 12 S34c := conGoodL Try.func12 (by kernel_rfl) c34 e34 mix (A := A34) fun L r hr hl hF => by
  obtain ⟨q0, l0, rfl, z0, hl1⟩ := lenAs_cons hl
  obtain ⟨a, b, c, d, e, f, g, l, rfl⟩ := eight z0
  have hz := lenAs_nil hl1
  subst hz
  simp only [F34, NAlts, firstAlt] at hF
  by_cases h0 : chkC ⟨a, b, c, d, e, f, g, l⟩ = 0
  · rw [bang_f h0, cond_false, cond_true] at hF
    simp only [Option.some.injEq, Prod.mk.injEq] at hF
    obtain ⟨rfl, rfl⟩ := hF
    have hv := good34 h0
    generalize flC ⟨a, b, c, d, e, f, g, l⟩ = W at *
    refine ⟨⟨trivial, trivial, trivial⟩, ⟨trivial, trivial, trivial, trivial, trivial, trivial, trivial, ⟨trivial, trivial, trivial, trivial, trivial, trivial, trivial, trivial, trivial, trivial, trivial, trivial, trivial, trivial, trivial⟩, trivial⟩, [.dead, .dead, .dead, .dead, .dead, .dead, .rowi 24 .u64 W, .cells 79 (memC ⟨a, b, c, d, e, f, g, l⟩ ac0 6)], [.cells 26 (encC ⟨a, b, c, d, e, f, g, l⟩), .dead, .dead, .rowi 24 .u64 W, .dead, .dead, .rowi 24 .u64 W, .cells 79 (memC ⟨a, b, c, d, e, f, g, l⟩ ac0 6)], RowEq.refl _, ?_, hv⟩
    kernel_rfl
  · rw [bang_t h0, cond_true] at hF
    simp only [Option.some.injEq, Prod.mk.injEq] at hF
    obtain ⟨rfl, rfl⟩ := hF
    have hv := bad34 h0
    exact ⟨⟨trivial, trivial, trivial⟩, trivial, [], [.cells 26 (encC ⟨a, b, c, d, e, f, g, l⟩)], RowEq.refl _, trim_none rfl _, hv⟩
end Go.Sx.Pr

namespace Go.Sx.Pr
open Go Go.Sx Go.Proofs
set_option maxRecDepth 100000
end Go.Sx.Pr

/- Packing of entries and tickets: what both layers' functions answer. -/
namespace Go.Sx.Pr
open Go Go.Sx Go.Proofs
set_option maxRecDepth 100000
end Go.Sx.Pr

namespace Go.Sx.Pr
open Go Go.Sx Go.Proofs
set_option maxRecDepth 100000
end Go.Sx.Pr

/- The steps of one layer, program and document, against the pure model. -/
namespace Go.Sx.Pr
open Go Go.Sx Go.Sx.Md Go.Proofs
set_option maxRecDepth 100000
end Go.Sx.Pr

namespace Go.Sx.Pr
open Go Go.Sx Go.Proofs
set_option maxRecDepth 100000
end Go.Sx.Pr

namespace Go.Sx.Pr
open Go Go.Sx Go.Proofs
set_option maxRecDepth 100000
end Go.Sx.Pr

/- Contracts: a slab's word, its state and number of parked blocks, program and document. -/
namespace Go.Sx.Pr
open Go Go.Sx Go.Sx.Md Go.Proofs
set_option maxRecDepth 100000

/-- A slab's word. -/
def wordV (c : Cf) (ws : List Int) (j : Int) : Int × Bool :=
  bif (chkC c == 0) && (((ws.length : Int) == szC c) && (decide (0 ≤ j) && decide (j < c.b))) then (ws.getD (3 + c.a + j).toNat 0, true) else (0, false)
theorem wordV_yes {c : Cf} {ws : List Int} {j : Int} (h0 : chkC c = 0) (h1 : (ws.length : Int) = szC c) (h2 : 0 ≤ j) (h3 : j < c.b) : wordV c ws j = (ws.getD (3 + c.a + j).toNat 0, true) := by
  unfold wordV; simp [h0, h1, h2, h3]
theorem wordV_no {c : Cf} {ws : List Int} {j : Int} (h : ¬ (chkC c = 0 ∧ (ws.length : Int) = szC c ∧ 0 ≤ j ∧ j < c.b)) : wordV c ws j = (0, false) := by
  unfold wordV
  cases e : (chkC c == 0) && (((ws.length : Int) == szC c) && (decide (0 ≤ j) && decide (j < c.b))) with
  | false => rfl
  | true =>
    simp only [Bool.and_eq_true, beq_iff_eq, decide_eq_true_eq] at e
    exact absurd e h
theorem n92 {Ω : Type} (it : Itr Ω) (K : SV → SH → Option Ω) (c : Cf) (ws : List Int) (j : Int) :
    sxFnI it E92 A92 C92 [.agg (encC c), .d (.ints .u64 ws), I j] [] K =
    br (!chkC c == 0) (br (!chkC c == 0) (K (I 0) [.cells 26 (encC c)]) (br (! (↑ (List.length ws) : Int) == 0) (K (I 0) [.cells 26 (encC c)]) (K (I 0) [.cells 26 (encC c)]))) (br (! (↑ (List.length ws) : Int) == szC c) (K (I 0) [.cells 26 (encC c)]) (br (decide (adr c 2 j < 0)) (K (I 0) [.cells 26 (encC c)]) (br (inB (adr c 2 j) (List.length ws)) (br (uB (List.getD ws (Int.toNat (adr c 2 j)) 0)) (K (I (List.getD ws (Int.toNat (adr c 2 j)) 0 % 16)) [.cells 26 (encC c)]) none) none))) := by kernel_rfl

section
variable {c : Cf} {ws : List Int} {j : Int}
theorem v92 (h : u64B ws = true) : GivesV (sxFn E92 A92 C92 [.agg (encC c), .d (.ints .u64 ws), I j] [] KS) (I ((wordV c ws j).1 % 16)) := by
  rw [← sxFnI_eq, n92]
  have no : ¬ (chkC c = 0 ∧ (ws.length : Int) = szC c ∧ 0 ≤ j ∧ j < c.b) → ∀ H, GivesV (KS (I 0) H) (I ((wordV c ws j).1 % 16)) := fun q H => by rw [wordV_no q]; exact givesV
  refine GivesV.br (fun h0 => ?_) fun h0 => ?_
  · have h0 : ¬ chkC c = 0 := by simpa using h0
    exact GivesV.br (fun _ => no (by simp [h0]) _) fun _ => GivesV.br (fun _ => no (by simp [h0]) _) fun _ => no (by simp [h0]) _
  · have h0 : chkC c = 0 := by simpa using h0
    refine GivesV.br (fun h1 => no (by simp at h1; simp [h1]) _) fun h1 => ?_
    have h1 : (ws.length : Int) = szC c := by simpa using h1
    rw [adr2 h0]
    by_cases hj : 0 ≤ j ∧ j < c.b
    · rw [if_pos hj]
      obtain ⟨⟨a1, a2⟩, ⟨b1, b2⟩, _⟩ := chk_zero h0
      have hs := szC_eq h0
      rw [decide_eq_false (by omega), br_f, show inB (3 + c.a + j) ws.length = true by
        simp only [inB, Bool.and_eq_true, decide_eq_true_eq]
        unfold sizeN at hs; omega, br_t, u64B_all h, br_t, wordV_yes h0 h1 hj.1 hj.2]
      exact givesV
    · rw [if_neg hj]
      exact no (fun q => hj q.2.2) _
end
def F92v : List (List Int) → Option (Bool × SV × SH)
  | [[c_a, c_b, c_c, c_d, c_e, c_f, c_g, c_l], ws, [j]] => let c := (⟨c_a, c_b, c_c, c_d, c_e, c_f, c_g, c_l⟩ : Md.Cf); some (u64B ws, I ((wordV c ws j).1 % 16), [])
  | _ => none
def S92c {Ω : Type} : Spec Ω := conSpec [.g cfgK, .s .u64, .i .i64] F92v
theorem g92c : Good1 Try.prog 16 S92c := conGood Try.func16 (by kernel_rfl) c92 e92 mix (A := A92) fun L r hr hl hF => by
  obtain ⟨q0, l0, rfl, z0, hl1⟩ := lenAs_cons hl
  obtain ⟨c_a, c_b, c_c, c_d, c_e, c_f, c_g, c_l, rfl⟩ := eight z0
  obtain ⟨ws, l1, rfl, z1, hl2⟩ := lenAs_cons hl1
  obtain ⟨q2, l2, rfl, z2, hl3⟩ := lenAs_cons hl2
  obtain ⟨j, rfl⟩ := one_of' z2
  have hz := lenAs_nil hl3
  subst hz
  simp only [F92v, Option.some.injEq, Prod.mk.injEq] at hF
  obtain ⟨hu, rfl, rfl⟩ := hF
  obtain ⟨H, hH⟩ := v92 (c := (⟨c_a, c_b, c_c, c_d, c_e, c_f, c_g, c_l⟩ : Md.Cf)) (ws := ws) (j := j) (by first | exact hu | exact rfl)
  exact ⟨by first | exact trivial | exact ⟨trivial, trivial⟩ | exact ⟨trivial, trivial, trivial⟩ | exact ⟨trivial, trivial, trivial, trivial⟩, trivial, H, trim_none rfl _, hH⟩

end Go.Sx.Pr
