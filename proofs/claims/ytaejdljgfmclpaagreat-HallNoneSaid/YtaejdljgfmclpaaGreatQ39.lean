/- A worker's states compared; too great a state: what the document's functions answer. -/
import Derived.Test.YtaejdljgfmclpaaGreatQ2
import Derived.Test.YtaejdljgfmclpaaGreatSxMem
import Derived.Test.YtaejdljgfmclpaaGreatSxCon3
import Derived.Test.YtaejdljgfmclpaaGreatRows
import Derived.KernelRfl
import Derived.Test.YtaejdljgfmclpaaGreatQ2
import Derived.Test.YtaejdljgfmclpaaGreatSxCon3
set_option linter.all false
set_option linter.unusedVariables false
set_option linter.unusedSimpArgs false
set_option linter.unnecessarySimpa false
namespace Go.Sx.Pr
open Go Go.Sx Go.Sx.Md Go.Proofs
set_option maxRecDepth 100000
theorem n48 (x y : Wk) :
    sxFn (E48 (Ω := SV × SH)) (An A48 0) C48 [.agg (encW x), .agg (encW y)] [] (KT 0) =
    br (!Wk.line x == Wk.line y) (some (B false, [])) (br (! (Wk.kind x == Wk.kind y && (Wk.opT x == Wk.opT y && (Wk.opX x == Wk.opX y && (Wk.slab x == Wk.slab y && (Wk.use x == Wk.use y && (Wk.by_ x == Wk.by_ y && (Wk.nth x == Wk.nth y && true)))))))) (some (B false, [])) (br (!Wk.pinned x == Wk.pinned y) (some (B false, [])) (br (!Wk.E x == Wk.E y) (some (B false, [])) (br (!Wk.B x == Wk.B y) (some (B false, [])) (br (!Wk.K x == Wk.K y) (some (B false, [])) (br (!Wk.I x == Wk.I y) (some (B false, [])) (br (!Wk.C x == Wk.C y) (some (B false, [])) (br (!Wk.borrow x == Wk.borrow y) (some (B false, [])) (br (!Wk.H x == Wk.H y) (some (B false, [])) (br (!Wk.N x == Wk.N y) (some (B false, [])) (br (!Wk.V x == Wk.V y) (some (B false, [])) (br (!Wk.U x == Wk.U y) (some (B false, [])) (br (!Wk.G x == Wk.G y) (some (B false, [])) (br (!Wk.J x == Wk.J y) (some (B false, [])) (br (!Wk.T x == Wk.T y) (some (B false, [])) (br (!Wk.ret x == Wk.ret y) (some (B false, [])) (br (!Wk.give x == Wk.give y) (some (B false, [])) (br (!Wk.t0 x == Wk.t0 y) (some (B false, [])) (br (decide (List.length (Wk.l0 x) < 1000000000)) (br (!decide (Wk.l0 x = Wk.l0 y)) (some (B false, [])) (br (!Wk.t1 x == Wk.t1 y) (some (B false, [])) (br (decide (List.length (Wk.l1 x) < 1000000000)) (br (!decide (Wk.l1 x = Wk.l1 y)) (some (B false, [])) (br (!Wk.t2 x == Wk.t2 y) (some (B false, [])) (br (decide (List.length (Wk.l2 x) < 1000000000)) (br (!decide (Wk.l2 x = Wk.l2 y)) (some (B false, [])) (br (decide (List.length (Wk.rack x) < 1000000000)) (br (decide (Wk.rack x = Wk.rack y)) (br (decide (List.length (Wk.hold x) < 1000000000)) (br (decide (Wk.hold x = Wk.hold y)) (br (decide (List.length (Wk.read x) < 1000000000)) (some (B (decide (Wk.read x = Wk.read y)), [])) none) (some (B false, []))) none) (some (B false, []))) none)) none))) none))) none))))))))))))))))))) := by kernel_rfl
def lenW (x : Wk) : Bool := decide (x.rack.length < 1000000000) && (decide (x.hold.length < 1000000000) && (decide (x.read.length < 1000000000) && (decide (x.l0.length < 1000000000) && (decide (x.l1.length < 1000000000) && decide (x.l2.length < 1000000000)))))
def sameW (x y : Wk) : Bool :=
  (x.line == y.line) && ((x.kind == y.kind && (x.opT == y.opT && (x.opX == y.opX && (x.slab == y.slab && (x.use == y.use && (x.by_ == y.by_ && (x.nth == y.nth && true))))))) && ((x.pinned == y.pinned) && ((x.E == y.E) && ((x.B == y.B) && ((x.K == y.K) && ((x.I == y.I) && ((x.C == y.C) && ((x.borrow == y.borrow) && ((x.H == y.H) && ((x.N == y.N) && ((x.V == y.V) && ((x.U == y.U) && ((x.G == y.G) && ((x.J == y.J) && ((x.T == y.T) && ((x.ret == y.ret) && ((x.give == y.give) && ((x.t0 == y.t0) && (decide (x.l0 = y.l0) && ((x.t1 == y.t1) && (decide (x.l1 = y.l1) && ((x.t2 == y.t2) && (decide (x.l2 = y.l2) && (decide (x.rack = y.rack) && (decide (x.hold = y.hold) && decide (x.read = y.read))))))))))))))))))))))))))
theorem brAnd {c : Bool} {X : Option (SV × SH)} {q : Bool} (h : X = some (B q, [])) : br (!c) (some (B false, [])) X = some (B (c && q), []) := by
  cases c with
  | true => rw [Bool.not_true, br_f, h, Bool.true_and]
  | false => rw [Bool.not_false, br_t, Bool.false_and]
theorem brAnd' {c : Bool} {X : Option (SV × SH)} {q : Bool} (h : X = some (B q, [])) : br c X (some (B false, [])) = some (B (c && q), []) := by
  cases c with
  | true => rw [br_t, h, Bool.true_and]
  | false => rw [br_f, Bool.false_and]
theorem v48 {x y : Wk} (h : lenW x = true) : sxFn (E48 (Ω := SV × SH)) (An A48 0) C48 [.agg (encW x), .agg (encW y)] [] (KT 0) = some (B (sameW x y), []) := by
  simp only [lenW, Bool.and_eq_true] at h
  obtain ⟨h1, h2, h3, h4, h5, h6⟩ := h
  rw [n48]
  simp only [h1, h2, h3, h4, h5, h6, br_t]
  unfold sameW
  exact brAnd (brAnd (brAnd (brAnd (brAnd (brAnd (brAnd (brAnd (brAnd (brAnd (brAnd (brAnd (brAnd (brAnd (brAnd (brAnd (brAnd (brAnd (brAnd (brAnd (brAnd (brAnd (brAnd (brAnd (brAnd' (brAnd' (rfl))))))))))))))))))))))))))
/-- No locs. -/
def noLs : SH → List SV → Option (List Nat) := fun _ _ => some []
def F48 : List SV → SH → List Alt := fun a0 h0 => match a0, h0 with
  | [.agg c, .agg d], [] => bif isC ctsW c && isC ctsW d then [(lenW (decW c), B (sameW (decW c) (decW d)), [])] else []
  | _, _ => []
theorem bif_nil {α : Type} {b : Bool} {l : List α} {r : SV × SH} {f : List α → Option (SV × SH)} (hf : f [] = none) (h : f (bif b then l else []) = some r) : b = true ∧ f l = some r := by
  cases b with
  | true => exact ⟨rfl, h⟩
  | false => rw [cond_false, hf] at h; cases h
def S48c {Ω : Type} : Spec Ω := memSpec [some ctsW, some ctsW] noLs [] F48
theorem g48c : Good1 Tryz.prog 42 S48c := memGood (A := A48) Tryz.func42 (by kernel_rfl) c48 e48 mix (fun _ _ _ _ i hi => by cases hi) fun a0 h0 r h1 hF => by
  unfold F48 at hF
  split at hF
  · rename_i c d
    obtain ⟨hc, hF⟩ := bif_nil rfl hF
    rw [Bool.and_eq_true] at hc
    cases hl : lenW (decW c) with
    | false => rw [hl] at hF; cases hF
    | true =>
      rw [hl] at hF
      simp only [firstAlt, cond_true, Option.some.injEq, Prod.mk.injEq] at hF
      obtain ⟨rfl, rfl⟩ := hF
      have hv := v48 (y := decW d) hl
      rw [enc_decW hc.1, enc_decW hc.2] at hv
      obtain ⟨H, q3, q4⟩ := kt_of e48 hv
      exact ⟨_, _, H, LeV.refl _, RowEq.refl _, q3, q4⟩
  · cases hF
end Go.Sx.Pr

/- Contracts with memory of functions that leave some of the locs as they are. -/
namespace Go.Sx

theorem locC_idx {ls : List Nat} {n l i : Nat} (h : idx l ls 0 = some i) : locC ls n i = l := by
  obtain ⟨_, h2, h3⟩ := idx_some h
  simp only [Nat.sub_zero] at h2 h3
  unfold locC
  rw [show Nat.blt i ls.length = true from Nat.ble_eq_true_of_le h2]
  exact h3

 mutual
theorem ren_unr {ls : List Nat} {n : Nat} : ∀ (x y : SV), unr ls x = some y → ren (locC ls n) y = x
  | .d x, y, e | .rp sz g o, y, e | .top, y, e => by simp only [unr, Option.some.injEq] at e; subst e; simp only [ren]
  | .ptr l o, y, e => by
      simp only [unr] at e; obtain ⟨i, h1, rfl⟩ := onI_some e; simp only [ren, locC_idx h1]
  | .pe l j o, y, e => by
      simp only [unr] at e; obtain ⟨i, h1, rfl⟩ := onI_some e; simp only [ren, locC_idx h1]
  | .own l, y, e => by
      simp only [unr] at e; obtain ⟨i, h1, rfl⟩ := onI_some e; simp only [ren, locC_idx h1]
  | .cs l o sz m c, y, e => by
      simp only [unr] at e; obtain ⟨i, h1, rfl⟩ := onI_some e; simp only [ren, locC_idx h1]
  | .mp l, y, e => by
      simp only [unr] at e; obtain ⟨i, h1, rfl⟩ := onI_some e; simp only [ren, locC_idx h1]
  | .fn g a b, y, e => by
      simp only [unr] at e
      split at e
      · rename_i a' b' ha hb
        simp only [Option.some.injEq] at e; subst e
        simp only [ren, renL_unr a a' ha, renL_unr b b' hb]
      · cases e
  | .agg c, y, e => by
      simp only [unr] at e
      split at e
      · rename_i c' hc
        simp only [Option.some.injEq] at e; subst e
        simp only [ren, renL_unr c c' hc]
      · cases e
  | .tup c, y, e => by
      simp only [unr] at e
      split at e
      · rename_i c' hc
        simp only [Option.some.injEq] at e; subst e
        simp only [ren, renL_unr c c' hc]
      · cases e
  | .md ks c, y, e => by
      simp only [unr] at e
      split at e
      · rename_i c' hc
        simp only [Option.some.injEq] at e; subst e
        simp only [ren, renL_unr c c' hc]
      · cases e
  | .rc c o, y, e => by
      simp only [unr] at e
      split at e
      · rename_i c' hc
        simp only [Option.some.injEq] at e; subst e
        simp only [ren, renL_unr c c' hc]
      · cases e
theorem renL_unr {ls : List Nat} {n : Nat} : ∀ (x y : List SV), unrL ls x = some y → renL (locC ls n) y = x
  | [], y, e => by simp only [unrL, Option.some.injEq] at e; subst e; simp only [renL]
  | x :: r, y, e => by
      simp only [unrL] at e
      split at e
      · rename_i y' s' h1 h2
        simp only [Option.some.injEq] at e; subst e
        simp only [renL, ren_unr x y' h1, renL_unr r s' h2]
      · cases e
end
theorem renO_unr {ls : List Nat} {n : Nat} {o o' : SO} (e : unrO ls o = some o') : renO (locC ls n) o' = o := by
  cases o with
  | cells t c =>
    simp only [unrO] at e
    split at e
    · rename_i c' hc
      simp only [Option.some.injEq] at e; subst e
      simp only [renO, renL_unr c c' hc]
    · cases e
  | maps es => cases e
  | dead => simp only [unrO, Option.some.injEq] at e; subst e; rfl
  | rowi t k xs => simp only [unrO, Option.some.injEq] at e; subst e; rfl
  | row t sz n f => simp only [unrO, Option.some.injEq] at e; subst e; rfl
  | mapi k es => simp only [unrO, Option.some.injEq] at e; subst e; rfl
  | mapb es => simp only [unrO, Option.some.injEq] at e; subst e; rfl

def altsW {Ω : Type} (ls wr sc : List Nat) (k : SV → List Nat → List Nat → SH → Option Ω) (h : SH) : List Alt → Option Ω
  | [] => none
  | (g, r, h1) :: rest => br g (bif Nat.ble ls.length h1.length then k (ren (locC ls h.length) r) wr sc (setLs h ls (renH (locC ls h.length) h1) ++ (renH (locC ls h.length) h1).drop ls.length) else none) (altsW ls wr sc k h rest)

/-- wr: the places of the locs that it may write. -/
def memSpecW (ts : List (Option (List CT))) (find : SH → List SV → Option (List Nat)) (wr : List Nat) (F : List SV → SH → List Alt) {Ω : Type} : Spec Ω := fun args h k =>
  match find h args with
  | none => none
  | some ls => match nrmA ls ts args, unrH ls h ls with
    | some a0, some h0 => bif okLs h.length ls then altsW ls (wr.map fun i => ls.getD i 0) [] k h (F a0 h0) else none
    | _, _ => none

theorem altsW_first {Ω : Type} {ls wr sc : List Nat} {k : SV → List Nat → List Nat → SH → Option Ω} {h : SH} {out : Ω} : ∀ {L : List Alt}, altsW ls wr sc k h L = some out → ∃ r h1, firstAlt L = some (r, h1) ∧ ls.length ≤ h1.length ∧ k (ren (locC ls h.length) r) wr sc (setLs h ls (renH (locC ls h.length) h1) ++ (renH (locC ls h.length) h1).drop ls.length) = some out
  | [], e => by cases e
  | (g, r, h1) :: rest, e => by
    cases g with
    | true =>
      simp only [altsW, br, cond_true] at e
      obtain ⟨e1, e2⟩ := cond_some e
      exact ⟨r, h1, rfl, Nat.le_of_ble_eq_true e1, e2⟩
    | false =>
      obtain ⟨r', hr', h1, h2⟩ := altsW_first (L := rest) e
      exact ⟨r', hr', h1, h2⟩

theorem altsW_of {Ω : Type} {ls wr sc : List Nat} {k : SV → List Nat → List Nat → SH → Option Ω} {h : SH} : ∀ {L : List Alt} {r : SV} {h1 : SH}, firstAlt L = some (r, h1) → ls.length ≤ h1.length → altsW ls wr sc k h L = k (ren (locC ls h.length) r) wr sc (setLs h ls (renH (locC ls h.length) h1) ++ (renH (locC ls h.length) h1).drop ls.length)
  | [], r, hr, e, _ => by cases e
  | (g, r', hr') :: rest, r, hr, e, hl => by
    cases g with
    | true =>
      simp only [firstAlt, cond_true, Option.some.injEq, Prod.mk.injEq] at e
      obtain ⟨rfl, rfl⟩ := e
      simp only [altsW, br, cond_true]
      rw [Nat.ble_eq_true_of_le hl]
      rfl
    | false => exact altsW_of (L := rest) e hl

theorem memW_par {ts : List (Option (List CT))} {find : SH → List SV → Option (List Nat)} {wr : List Nat} {F : List SV → SH → List Alt} {Ω Ω' : Type} : SpecPar (memSpecW ts find wr F (Ω := Ω)) (memSpecW ts find wr F (Ω := Ω')) := by
  intro args h k out hs
  unfold memSpecW at hs ⊢
  split at hs
  · cases hs
  · rename_i ls hls
    split at hs
    · rename_i a0 h0 ha hh
      obtain ⟨e1, hs⟩ := cond_some hs
      obtain ⟨r, h1, k1, k2, k3⟩ := altsW_first hs
      refine ⟨_, _, _, _, k3, fun k' => ?_⟩
      simp only [e1, cond_true]
      exact altsW_of k1 k2
    · cases hs

theorem aside_nil {ls : List Nat} : ∀ {h : SH} {i : Nat}, aside ls [] i h = true
  | [], _ => rfl
  | o :: r, i => by
    simp only [aside, Bool.and_eq_true, Bool.or_eq_true, Bool.not_eq_true']
    refine ⟨.inr ?_, aside_nil⟩
    have : (fun l => nmem l []) = fun _ => false := funext fun l => by simp [nmem]
    rw [this]; exact mentO_none o

theorem memGoodW {P : Program} {g : Nat} {fn : Func} (hf : P.funcs[g]? = some fn) (hname : (fn.name == "runtime.NumGoroutine") = false) {C : CF} (hC : coF P fn = some C) {A : Ann} {e : {Ω : Type} → Env Ω} (he : GoodE P e) (hmix : P.follows .mixedOrders = true)
    {ts : List (Option (List CT))} {find : SH → List SV → Option (List Nat)} {wr : List Nat} {F : List SV → SH → List Alt}
    (hrun : ∀ a0 h0 r h1, firstAlt (F a0 h0) = some (r, h1) → (∀ i, i < h0.length → nmem i wr = false → hget h1 i = hget h0 i) ∧ ∃ r0 hr0 H, LeV r0 r ∧ RowEq hr0 h1 ∧ trim h0.length r0 (List.range h0.length) H = hr0 ∧
      sxFn (e (Ω := SV × SH)) { A with n0 := h0.length, ap := [] } C a0 h0 (fun r h => some (r, h)) = some (r0, H)) :
    Good1 P g (fun {Ω} => memSpecW ts find wr F (Ω := Ω)) := by
  have hbody : ∃ c, fn.body = some c := by
    unfold coF at hC
    split at hC
    · rename_i c hb; exact ⟨c, hb⟩
    · cases hC
  obtain ⟨c, hb⟩ := hbody
  have henter : ∀ (args : Array Value) (w : World), (callFunc g args).run P w = .ok (.enter g args) w := fun args w => by
    have h1 : fn.name ≠ "runtime.NumGoroutine" := by simpa using hname
    simp [callFunc, hf, h1, hb]
  refine ⟨fun Ω => ⟨henter, fun args h k out hs => ?_⟩, fun Ω Ω' => memW_par⟩
  unfold memSpecW at hs
  split at hs
  · cases hs
  · rename_i ls hls
    split at hs
    · rename_i a0 h0 ha hh
      obtain ⟨hok, hs⟩ := cond_some hs
      obtain ⟨r, h1, k1, k2, k3⟩ := altsW_first hs
      obtain ⟨hkeep, r0, hr0, H, hle, heq, htr, hrun⟩ := hrun a0 h0 r h1 k1
      have hlen := (unrH_get hh).1
      refine ⟨_, _, _, _, k3, ⟨by simp only [List.length_append, setLs_length]; omega, fun l hl hlm => ?_⟩, fun cx w vals hg hargs => ?_⟩
      · rw [hget_app, setLs_length, if_pos hl, setLs_get hok rfl (by rw [renH_length]; exact k2)]
        cases hi : idx l ls 0 with
        | none => rfl
        | some i =>
          obtain ⟨_, h2, h3⟩ := idx_some hi
          simp only [Nat.sub_zero] at h2 h3
          simp only
          have hni : nmem i wr = false := by
            cases hb : nmem i wr with
            | false => rfl
            | true =>
              have := nmem_map (ls := ls) hb
              rw [h3, hlm] at this; cases this
          have h4 := (unrH_get hh).2 i h2
          rw [renH_get, hkeep i (by omega) hni, renO_unr h4, h3]
      · have hcalls := fn_calls (A := { A with n0 := h0.length, ap := [] }) (he.ok _) hmix hf hC hrun (cxM cx h ls) w vals (gamM hg hok hh) (nrmA_ok ha hargs)
        refine hcalls.mono fun e w' ⟨v, cxq, e1, grq, hrq, hGq⟩ => ?_
        obtain ⟨cxs, hG, hr, hgrow⟩ := trim_sound (n0 := h0.length) (m := List.range h0.length) hGq hrq
        have gr := hgrow (by simp only [cxM, hlen]; exact Nat.le_refl _) grq
        rw [htr] at hG
        have hG' := hG.rowEq heq
        obtain ⟨q1, q2⟩ := back_gam (ap := []) hg hok (fun i hi => by cases hi) aside_nil (fun i hi hni => by
          simp only [Ann.p, Ann.ok, hni, Bool.or_false]
          cases hb : Nat.ble h0.length i with
          | false => rfl
          | true => have := Nat.le_of_ble_eq_true hb; omega) gr hG' k2
        exact ⟨v, _, e1, q1, SRep.ren (rnR hok (by have := hG'.n; omega)) _ _ (LeV.rep _ _ _ hle hr), q2⟩
    · cases hs
end Go.Sx

/- All: a copy of a memory's words. -/
namespace Go.Sx.Pr
open Go Go.Sx Go.Sx.Md Go.Proofs
set_option maxRecDepth 100000
theorem n33 {m : Mm} {t tw : TypeId} : sxFn (E33 (Ω := SV × SH)) (An A33 2) C33 [.ptr 0 0] (objs LM t tw m) (KT 2) = br (fits m.ws.length 8) (some (.own 2, [.cells t (LM.enc m), .rowi tw .u64 m.ws, .rowi 22 .u64 m.ws])) none := by kernel_rfl
def F33 : List SV → SH → List Alt := fun a0 h0 => match a0, h0 with
  | [.ptr 0 0], [.cells t c, .rowi tw .u64 ws] => bif isM c then [(fits ws.length 8, .own 2, [.cells t c, .rowi tw .u64 ws, .rowi 22 .u64 ws])] else []
  | _, _ => []
def S33c {Ω : Type} : Spec Ω := memSpecW [none] (findM 13) [] F33
theorem g33c : Good1 Tryz.prog 41 S33c := memGoodW (A := A33) Tryz.func41 (by kernel_rfl) c33 e33 mix fun a0 h0 r h1 hF => by
  unfold F33 at hF
  split at hF
  · rename_i t c tw ws
    obtain ⟨hc, hF⟩ := bif_nil rfl hF
    cases hl : fits ws.length 8 with
    | false => rw [hl] at hF; cases hF
    | true =>
      rw [hl] at hF
      simp only [firstAlt, cond_true, Option.some.injEq, Prod.mk.injEq] at hF
      obtain ⟨rfl, rfl⟩ := hF
      obtain ⟨e1, e2⟩ := lay_M c ws hc
      have hv := n33 (m := LM.dec c ws) (t := t) (tw := tw)
      rw [show objs LM t tw (LM.dec c ws) = [.cells t c, .rowi tw .u64 ws] by simp only [objs, e1, e2], e1, e2, hl, br_t] at hv
      obtain ⟨H, q3, q4⟩ := kt_of e33 hv
      refine ⟨fun i hi _ => ?_, _, _, H, LeV.refl _, RowEq.refl _, q3, q4⟩
      match i, hi with
      | 0, _ => rfl
      | 1, _ => rfl
      | i + 2, hi => exact absurd hi (by simp only [List.length_cons, List.length_nil]; omega)
  · cases hF
end Go.Sx.Pr

/- All's list as data. -/
namespace Go.Sx.Pr
open Go Go.Sx Go.Sx.Md Go.Proofs
set_option maxRecDepth 100000
end Go.Sx.Pr

namespace Go.Sx.Pr
open Go Go.Sx Go.Proofs
set_option maxRecDepth 100000
def K18_1 : CC := .seq (.block 0 (.seq (.reg false [⟨some 14, .mv (.t 7), none, 0⟩,
     ⟨some 15, .eq .int true (.t 14) (.c (.d (.v (.int .i64 0)))), none, 0⟩,
     ⟨some 13, .mv (.t 15), none, 0⟩])
   (.cond 13 (.seq (.reg false [⟨some 16, .mv (.t 7), none, 0⟩,
       ⟨some 4, .mv (.c (.d (.v (.pointer none)))), none, 0⟩,
       ⟨some 5, .mv (.t 16), none, 0⟩])
     (.ret))
     (.seq (.reg false [⟨some 18, .mv (.t 1), none, 0⟩,
       ⟨some 19, .len (.t 18), none, 0⟩,
       ⟨some 20, .ld 8 true (.t 6), none, 0⟩,
       ⟨some 21, .call (.c (.fn (.func 68) [] [])) [.t 20], none, 0⟩,
       ⟨some 22, .eq .int true (.t 19) (.t 21), none, 0⟩,
       ⟨some 17, .mv (.t 22), none, 0⟩])
     (.cond 17 (.seq (.reg false [⟨some 4, .mv (.c (.d (.v (.pointer none)))), none, 0⟩,
         ⟨some 5, .mv (.c (.d (.v (.int .i64 3)))), none, 0⟩])
       (.ret))
       (.skip))))))
 (.seq (.reg true [⟨some 23, .ld 8 true (.t 6), none, 0⟩,
   ⟨some 24, .mv (.t 1), none, 0⟩,
   ⟨some 25, .call (.c (.fn (.func 33) [] [])) [.t 24], none, 2⟩,
   ⟨some 26, .bld [.d (.v (.int .i64 0)), .d (.v (.int .i64 0)), .d (.v (.int .i64 0)), .d (.v (.int .i64 0)), .d (.v (.int .i64 0)), .d (.v (.int .i64 0)), .d (.v (.int .i64 0)), .d (.v (.int .u64 0)), .d (.v (.int .i64 0)), .d (.v (.int .i64 0)), .d (.v (.int .u64 0)), .d (.v (.int .u64 0)), .d (.v (.int .u64 0)), .d (.v (.slice none 0 0))] [(0, 8, .t 23), (13, 1, .t 25)], none, 7⟩,
   ⟨some 27, .box 89 14 (.t 26), none, 15⟩,
   ⟨some 4, .mv (.t 27), none, 31⟩,
   ⟨some 5, .mv (.c (.d (.v (.int .i64 0)))), none, 63⟩])
 (.ret))
def K18_2 : CC := .reg false [⟨some 9, .ld 8 true (.t 2), none, 0⟩,
   ⟨some 10, .call (.c (.fn (.func 67) [] [])) [.t 9], none, 0⟩,
   ⟨some 8, .mv (.t 10), none, 0⟩,
   ⟨some 11, .ext 0 (.t 8), none, 0⟩,
   ⟨some 12, .ext 1 (.t 8), none, 0⟩,
   ⟨some 6, .newc 87 [.d (.v (.int .i64 0)), .d (.v (.int .i64 0)), .d (.v (.int .i64 0)), .d (.v (.int .i64 0)), .d (.v (.int .i64 0)), .d (.v (.int .i64 0)), .d (.v (.int .i64 0)), .d (.v (.int .u64 0))], none, 0⟩,
   ⟨none, .st 8 (.t 6) (.t 11), none, 0⟩,
   ⟨some 7, .mv (.t 12), none, 0⟩]
def K18_3 : CC := .reg false [⟨some 2, .box 24 8 (.t 0), none, 0⟩,
   ⟨some 4, .mv (.c (.d (.v (.pointer none)))), none, 0⟩,
   ⟨some 5, .mv (.c (.d (.v (.int .i64 0)))), none, 0⟩]
/-- coatcheck/memory.From -/
def C18 : CF := ⟨2, [(4, none), (5, none)],
 .seq K18_3 (.seq K18_2 K18_1)⟩
theorem c18 : coF Tryz.prog Tryz.f53 = some C18 := by kernel_rfl
def A18 : Ann := { keep := [0, 1, 2, 4, 5, 6, 7, 13, 17], live := [] }
def E18 {Ω : Type} : Env Ω := econs 33 S65 (econs 67 S63 (econs 68 S64 (enil)))
theorem e18 : GoodE Tryz.prog E18 := GoodE.cons g65 (GoodE.cons g63 (GoodE.cons g64 (GoodE.nil)))
def S18 {Ω : Type} : Spec Ω := inl E18 A18 C18 false
theorem g18 : Good1 Tryz.prog 53 S18 := Good1.inl e18 mix Tryz.func53 (by kernel_rfl) c18 A18 false
/-- coatcheck/memory.New -/
def C34 : CF := ⟨1, [(2, none), (3, none)],
 .seq (.reg false [⟨some 1, .box 24 8 (.t 0), none, 0⟩,
   ⟨some 2, .mv (.c (.d (.v (.pointer none)))), none, 0⟩,
   ⟨some 3, .mv (.c (.d (.v (.int .i64 0)))), none, 0⟩])
 (.seq (.reg true [⟨some 4, .ld 8 true (.t 1), none, 0⟩,
   ⟨some 5, .ld 8 true (.t 1), none, 0⟩,
   ⟨some 6, .call (.c (.fn (.func 54) [] [])) [.t 5], none, 2⟩,
   ⟨some 7, .call (.c (.fn (.func 53) [] [])) [.t 4, .t 6], none, 7⟩,
   ⟨some 8, .ext 0 (.t 7), none, 15⟩,
   ⟨some 9, .ext 1 (.t 7), none, 15⟩,
   ⟨some 2, .mv (.t 8), none, 63⟩,
   ⟨some 3, .mv (.t 9), none, 127⟩])
 (.ret))⟩
theorem c34 : coF Tryz.prog Tryz.f25 = some C34 := by kernel_rfl
def A34 : Ann := { keep := [0, 1, 2, 3], live := [] }
def E34 {Ω : Type} : Env Ω := econs 53 S18 (econs 54 S68 (enil))
theorem e34 : GoodE Tryz.prog E34 := GoodE.cons g18 (GoodE.cons g68 (GoodE.nil))
end Go.Sx.Pr

/- Memory objects with their row's loc. -/
namespace Go.Sx.Pr
open Go Go.Sx Go.Sx.Md
def memC (c : Cf) (s : Ac) (o : Nat) : List SV := [I c.a, I c.b, I c.c, I c.d, I c.e, I c.f, I c.g, U c.l, I s.k, I s.a, U s.x, U s.y, U s.o, .own o]
end Go.Sx.Pr

/- The steps laws: what all of them need. -/
namespace Go.Sx.Pr
open Go Go.Sx Go.Sx.Md Go.Proofs
set_option maxRecDepth 100000

/-- True, with some heap. -/
def Tru (o : Option (SV × SH)) : Prop := ∃ H, o = some (B true, H)
theorem Tru.br {b : Bool} {x y : Option (SV × SH)} (h1 : b = true → Tru x) (h2 : b = false → Tru y) : Tru (br b x y) := by
  cases b with
  | true => exact h1 rfl
  | false => exact h2 rfl
def szC (c : Cf) : Int := szZ c.a c.b c.c c.d c.e c.f c.g c.l

/-- What a step leaves well formed. -/
def Pres (m : Mm) (x : Wk) (r : SR) : Prop := okM r.m = true ∧ okW r.x = true ∧ lenW r.x = lenW x ∧ r.m.ws.length = m.ws.length ∧ r.m.c = m.c
theorem Pres.cond {m : Mm} {x : Wk} {a b : SR} {t : Bool} (ha : Pres m x a) (hb : Pres m x b) : Pres m x (bif t then a else b) := by
  cases t with
  | true => exact ha
  | false => exact hb
section
variable {m : Mm} {x : Wk} (hm : okM m = true) (hx : okW x = true)
 include hm hx
end
end Go.Sx.Pr

/- Helpers: results with some heap, sizes, addresses. Plain Lean. -/
namespace Go.Sx.Pr
open Go Go.Sx Go.Sx.Md Go.Proofs
set_option maxRecDepth 100000

/-- A run's result, with some heap. -/
def GivesV (o : Option (SV × SH)) (r : SV) : Prop := ∃ H, o = some (r, H)
theorem givesV {r : SV} {H : SH} : GivesV (KS r H) r := ⟨H, rfl⟩
theorem GivesV.br {b : Bool} {x y : Option (SV × SH)} {r : SV} (h1 : b = true → GivesV x r) (h2 : b = false → GivesV y r) : GivesV (br b x y) r := by
  cases b with
  | true => exact h1 rfl
  | false => exact h2 rfl
theorem bang_t {x y : Int} (h : ¬ x = y) : (!x == y) = true := by simp [h]
theorem bang_f {x y : Int} (h : x = y) : (!x == y) = false := by simp [h]

theorem szC_eq {c : Cf} (h : chkC c = 0) : szC c = ((sizeN c.a.toNat c.b.toNat c.c.toNat c.d.toNat c.e.toNat : Nat) : Int) := by
  have h' : chk c.a c.b c.c c.d c.e c.f c.g c.l = 0 := h
  simp [szC, szZ, h']
end Go.Sx.Pr

namespace Go.Sx.Pr
open Go Go.Sx Go.Proofs
set_option maxRecDepth 100000
def K1033_1 : CC := .seq (.reg false [⟨some 12, .ld 8 true (.t 2), none, 0⟩,
   ⟨some 13, .call (.c (.fn (.func 66) [] [])) [.t 12], none, 0⟩,
   ⟨some 14, .eq .int false (.t 13) (.c (.d (.v (.int .i64 0)))), none, 0⟩,
   ⟨some 15, .mv (.t 14), none, 0⟩,
   ⟨some 16, .mv (.t 5), some (15, true), 0⟩,
   ⟨some 17, .bin .geq (.t 16) (.c (.d (.v (.int .i64 0)))), some (15, true), 0⟩,
   ⟨some 18, .pick (.t 15) (.t 17) (.c (.d (.v (.bool false)))), none, 0⟩,
   ⟨some 19, .mv (.t 18), none, 0⟩,
   ⟨some 20, .mv (.t 5), some (19, true), 0⟩,
   ⟨some 21, .fa 4 (.t 2), some (19, true), 0⟩,
   ⟨some 22, .ld 1 false (.t 21), some (19, true), 0⟩,
   ⟨some 23, .bin .lss (.t 20) (.t 22), some (19, true), 0⟩,
   ⟨some 24, .pick (.t 19) (.t 23) (.c (.d (.v (.bool false)))), none, 0⟩,
   ⟨some 25, .mv (.t 24), none, 0⟩,
   ⟨some 26, .mv (.t 6), some (25, true), 0⟩,
   ⟨some 27, .bin .geq (.t 26) (.c (.d (.v (.int .u64 1)))), some (25, true), 0⟩,
   ⟨some 28, .pick (.t 25) (.t 27) (.c (.d (.v (.bool false)))), none, 0⟩,
   ⟨some 29, .mv (.t 28), none, 0⟩,
   ⟨some 30, .mv (.t 6), some (29, true), 0⟩,
   ⟨some 31, .fa 7 (.t 2), some (29, true), 0⟩,
   ⟨some 32, .ld 1 false (.t 31), some (29, true), 0⟩,
   ⟨some 33, .bin .leq (.t 30) (.t 32), some (29, true), 0⟩,
   ⟨some 34, .pick (.t 29) (.t 33) (.c (.d (.v (.bool false)))), none, 0⟩,
   ⟨some 4, .mv (.t 34), none, 0⟩])
 (.ret)
def K1033_2 : CC := .reg false [⟨some 8, .mv (.t 1), none, 0⟩,
   ⟨some 9, .call (.c (.fn (.func 108) [] [])) [.t 8], none, 0⟩,
   ⟨some 7, .mv (.t 9), none, 0⟩,
   ⟨some 10, .ext 0 (.t 7), none, 0⟩,
   ⟨some 11, .ext 1 (.t 7), none, 0⟩,
   ⟨some 5, .mv (.t 10), none, 0⟩,
   ⟨some 6, .mv (.t 11), none, 0⟩]
def K1033_3 : CC := .reg false [⟨some 2, .box 24 8 (.t 0), none, 0⟩,
   ⟨some 4, .mv (.c (.d (.v (.bool false)))), none, 0⟩]
/-- coatcheck/entry.Good -/
def C1033 : CF := ⟨2, [(4, none)],
 .seq K1033_3 (.seq K1033_2 K1033_1)⟩
theorem c1033 : coF Tryz.prog Tryz.f75 = some C1033 := by kernel_rfl
def A1033 : Ann := { keep := [0, 1, 2, 4, 5, 6], live := [] }
def E1033 {Ω : Type} : Env Ω := econs 108 S1068c (econs 66 S106 (enil))
theorem e1033 : GoodE Tryz.prog E1033 := GoodE.cons g1068c (GoodE.cons g106 (GoodE.nil))
end Go.Sx.Pr

namespace Go.Sx.Pr
open Go Go.Sx Go.Proofs
set_option maxRecDepth 100000
end Go.Sx.Pr

/- Contracts: a ticket's form, and the block of a live ticket, program and document. -/
namespace Go.Sx.Pr
open Go Go.Sx Go.Sx.Md Go.Proofs
set_option maxRecDepth 100000

theorem n1033 {Ω : Type} (it : Itr Ω) (K : SV → SH → Option Ω) (c : Cf) (t : Int) :
    sxFnI it E1033 A1033 C1033 [.agg (encC c), U t] [] K =
    br (uB t) (br (chkC c == 0) (br (decide (t % 65536 - 1 ≥ 0)) (br (decide (t % 65536 - 1 < Cf.e c)) (br (decide (t / 65536 ≥ 1)) (K (B (decide (t / 65536 ≤ Cf.l c))) [.cells 24 (encC c)]) (K (B false) [.cells 24 (encC c)])) (K (B false) [.cells 24 (encC c)])) (K (B false) [.cells 24 (encC c)])) (K (B false) [.cells 24 (encC c)])) none := by kernel_rfl
/-- Is a ticket well-formed? -/
def goodV (c : Cf) (t : Int) : Bool := (chkC c == 0) && (decide (t % 65536 - 1 ≥ 0) && (decide (t % 65536 - 1 < c.e) && (decide (t / 65536 ≥ 1) && decide (t / 65536 ≤ c.l))))
section
variable {c : Cf} {ws : List Int} {t : Int}
theorem v1033 (h : uB t = true) : GivesV (sxFn E1033 A1033 C1033 [.agg (encC c), U t] [] KS) (B (goodV c t)) := by
  rw [← sxFnI_eq, n1033, h, br_t]
  unfold goodV
  cases (chkC c == 0) <;> cases decide (t % 65536 - 1 ≥ 0) <;> cases decide (t % 65536 - 1 < c.e) <;> cases decide (t / 65536 ≥ 1) <;> exact givesV
end
def F1033v : List (List Int) → Option (Bool × SV × SH)
  | [[c_a, c_b, c_c, c_d, c_e, c_f, c_g, c_l], [t]] => let c := (⟨c_a, c_b, c_c, c_d, c_e, c_f, c_g, c_l⟩ : Md.Cf); some (uB t, B (goodV c t), [])
  | _ => none
def S1033c {Ω : Type} : Spec Ω := conSpec [.g cfgK, .i .u64] F1033v
theorem g1033c : Good1 Tryz.prog 75 S1033c := conGood Tryz.func75 (by kernel_rfl) c1033 e1033 mix (A := A1033) fun L r hr hl hF => by
  obtain ⟨q0, l0, rfl, z0, hl1⟩ := lenAs_cons hl
  obtain ⟨c_a, c_b, c_c, c_d, c_e, c_f, c_g, c_l, rfl⟩ := eight z0
  obtain ⟨q1, l1, rfl, z1, hl2⟩ := lenAs_cons hl1
  obtain ⟨t, rfl⟩ := one_of' z1
  have hz := lenAs_nil hl2
  subst hz
  simp only [F1033v, Option.some.injEq, Prod.mk.injEq] at hF
  obtain ⟨hu, rfl, rfl⟩ := hF
  obtain ⟨H, hH⟩ := v1033 (c := (⟨c_a, c_b, c_c, c_d, c_e, c_f, c_g, c_l⟩ : Md.Cf)) (t := t) (by first | exact hu | exact rfl)
  exact ⟨by first | exact trivial | exact ⟨trivial, trivial⟩ | exact ⟨trivial, trivial, trivial⟩ | exact ⟨trivial, trivial, trivial, trivial⟩, trivial, H, trim_none rfl _, hH⟩

end Go.Sx.Pr

/- The contract of memory.New. -/
namespace Go.Sx.Pr
open Go Go.Sx Go.Sx.Md Go.Proofs
set_option maxRecDepth 100000

theorem n34 {Ω : Type} (it : Itr Ω) (K : SV → SH → Option Ω) (c : Cf) :
    sxFnI it E34 A34 C34 [.agg (encC c)] [] K =
    br (!chkC c == 0) (br (!chkC c == 0) (br (!chkC c == 0) (K (.tup [.d (DV.v (Value.pointer none)), I (chkC c)]) [.cells 24 (encC c)]) (K (.tup [.ptr 4 0, I 0]) [.cells 24 (encC c), .dead, .dead, .rowi 22 .u64 [], .cells 89 [I 0, I 0, I 0, I 0, I 0, I 0, I 0, U 0, I 0, I 0, U 0, U 0, U 0, .own 3]])) (br (!0 == szC c) (K (.tup [.d (DV.v (Value.pointer none)), I 3]) [.cells 24 (encC c)]) (K (.tup [.ptr 4 0, I 0]) [.cells 24 (encC c), .dead, .dead, .rowi 22 .u64 [], .cells 89 (memC c ac0 3)]))) (br (!chkC c == 0) (br (!chkC c == 0) (K (.tup [.d (DV.v (Value.pointer none)), I (chkC c)]) [.cells 24 (encC c), .dead, .dead, .rowi 22 .u64 (fl (sizeN (Int.toNat (Cf.a c)) (Int.toNat (Cf.b c)) (Int.toNat (Cf.c c)) (Int.toNat (Cf.d c)) (Int.toNat (Cf.e c))) (3 + Int.toNat (Cf.a c) + Int.toNat (Cf.b c)) (Int.toNat (Cf.e c)) (Int.toNat (Cf.e c)))]) (br (! (↑ (List.length (fl (sizeN (Int.toNat (Cf.a c)) (Int.toNat (Cf.b c)) (Int.toNat (Cf.c c)) (Int.toNat (Cf.d c)) (Int.toNat (Cf.e c))) (3 + Int.toNat (Cf.a c) + Int.toNat (Cf.b c)) (Int.toNat (Cf.e c)) (Int.toNat (Cf.e c)))) : Int) == 0) (K (.tup [.d (DV.v (Value.pointer none)), I 3]) [.cells 24 (encC c), .dead, .dead, .rowi 22 .u64 (fl (sizeN (Int.toNat (Cf.a c)) (Int.toNat (Cf.b c)) (Int.toNat (Cf.c c)) (Int.toNat (Cf.d c)) (Int.toNat (Cf.e c))) (3 + Int.toNat (Cf.a c) + Int.toNat (Cf.b c)) (Int.toNat (Cf.e c)) (Int.toNat (Cf.e c)))]) (br (fits (List.length (fl (sizeN (Int.toNat (Cf.a c)) (Int.toNat (Cf.b c)) (Int.toNat (Cf.c c)) (Int.toNat (Cf.d c)) (Int.toNat (Cf.e c))) (3 + Int.toNat (Cf.a c) + Int.toNat (Cf.b c)) (Int.toNat (Cf.e c)) (Int.toNat (Cf.e c)))) 8) (K (.tup [.ptr 7 0, I 0]) [.cells 24 (encC c), .dead, .dead, .rowi 22 .u64 (fl (sizeN (Int.toNat (Cf.a c)) (Int.toNat (Cf.b c)) (Int.toNat (Cf.c c)) (Int.toNat (Cf.d c)) (Int.toNat (Cf.e c))) (3 + Int.toNat (Cf.a c) + Int.toNat (Cf.b c)) (Int.toNat (Cf.e c)) (Int.toNat (Cf.e c))), .dead, .dead, .rowi 22 .u64 (fl (sizeN (Int.toNat (Cf.a c)) (Int.toNat (Cf.b c)) (Int.toNat (Cf.c c)) (Int.toNat (Cf.d c)) (Int.toNat (Cf.e c))) (3 + Int.toNat (Cf.a c) + Int.toNat (Cf.b c)) (Int.toNat (Cf.e c)) (Int.toNat (Cf.e c))), .cells 89 [I 0, I 0, I 0, I 0, I 0, I 0, I 0, U 0, I 0, I 0, U 0, U 0, U 0, .own 6]]) none))) (br (! (↑ (List.length (fl (sizeN (Int.toNat (Cf.a c)) (Int.toNat (Cf.b c)) (Int.toNat (Cf.c c)) (Int.toNat (Cf.d c)) (Int.toNat (Cf.e c))) (3 + Int.toNat (Cf.a c) + Int.toNat (Cf.b c)) (Int.toNat (Cf.e c)) (Int.toNat (Cf.e c)))) : Int) == szC c) (K (.tup [.d (DV.v (Value.pointer none)), I 3]) [.cells 24 (encC c), .dead, .dead, .rowi 22 .u64 (fl (sizeN (Int.toNat (Cf.a c)) (Int.toNat (Cf.b c)) (Int.toNat (Cf.c c)) (Int.toNat (Cf.d c)) (Int.toNat (Cf.e c))) (3 + Int.toNat (Cf.a c) + Int.toNat (Cf.b c)) (Int.toNat (Cf.e c)) (Int.toNat (Cf.e c)))]) (br (fits (List.length (fl (sizeN (Int.toNat (Cf.a c)) (Int.toNat (Cf.b c)) (Int.toNat (Cf.c c)) (Int.toNat (Cf.d c)) (Int.toNat (Cf.e c))) (3 + Int.toNat (Cf.a c) + Int.toNat (Cf.b c)) (Int.toNat (Cf.e c)) (Int.toNat (Cf.e c)))) 8) (K (.tup [.ptr 7 0, I 0]) [.cells 24 (encC c), .dead, .dead, .rowi 22 .u64 (fl (sizeN (Int.toNat (Cf.a c)) (Int.toNat (Cf.b c)) (Int.toNat (Cf.c c)) (Int.toNat (Cf.d c)) (Int.toNat (Cf.e c))) (3 + Int.toNat (Cf.a c) + Int.toNat (Cf.b c)) (Int.toNat (Cf.e c)) (Int.toNat (Cf.e c))), .dead, .dead, .rowi 22 .u64 (fl (sizeN (Int.toNat (Cf.a c)) (Int.toNat (Cf.b c)) (Int.toNat (Cf.c c)) (Int.toNat (Cf.d c)) (Int.toNat (Cf.e c))) (3 + Int.toNat (Cf.a c) + Int.toNat (Cf.b c)) (Int.toNat (Cf.e c)) (Int.toNat (Cf.e c))), .cells 89 (memC c ac0 6)]) none))) := by kernel_rfl

/-- A new memory's words. -/
def flC (c : Cf) : List Int := fl (sizeN c.a.toNat c.b.toNat c.c.toNat c.d.toNat c.e.toNat) (3 + c.a.toNat + c.b.toNat) c.e.toNat c.e.toNat
theorem flC_len {c : Cf} (h : chkC c = 0) : ((flC c).length : Int) = szC c := by unfold flC; rw [fl_length, szC_eq h]
theorem szC_le {c : Cf} (h : chkC c = 0) : szC c ≤ 1000 := by
  have := size_le (a := c.a) (b := c.b) (c := c.c) (d := c.d) (e := c.e) (f := c.f) (g := c.g) (l := c.l) h
  have h2 := szC_eq h
  omega
def NAlts (c : Cf) : List (Bool × SV × SH) :=
  [(!(chkC c == 0), .tup [.d (.v (.pointer none)), I (chkC c)], []), (true, .tup [.ptr 7 0, I 0], [.dead, .dead, .dead, .dead, .dead, .dead, .rowi 22 .u64 (flC c), .cells 89 (memC c ac0 6)])]
def F34 : List (List Int) → List (Bool × SV × SH)
  | [[a, b, c, d, e, f, g, l]] => NAlts ⟨a, b, c, d, e, f, g, l⟩
  | _ => []
def S34c {Ω : Type} : Spec Ω := conSpecL [.g cfgK] F34
theorem good34 {c : Cf} (h : chkC c = 0) : sxFn E34 A34 C34 [.agg (encC c)] [] KS = some (.tup [.ptr 7 0, I 0], [.cells 24 (encC c), .dead, .dead, .rowi 22 .u64 (flC c), .dead, .dead, .rowi 22 .u64 (flC c), .cells 89 (memC c ac0 6)]) := by
  have h1 := flC_len h
  have h2 := szC_le h
  rw [← sxFnI_eq, n34, bang_f h, br_f, br_f]
  rw [show fl (sizeN (Int.toNat (Cf.a c)) (Int.toNat (Cf.b c)) (Int.toNat (Cf.c c)) (Int.toNat (Cf.d c)) (Int.toNat (Cf.e c))) (3 + Int.toNat (Cf.a c) + Int.toNat (Cf.b c)) (Int.toNat (Cf.e c)) (Int.toNat (Cf.e c)) = flC c from rfl]
  rw [bang_f h1, br_f, fits_of (by omega), br_t]
theorem bad34 {c : Cf} (h : ¬ chkC c = 0) : sxFn E34 A34 C34 [.agg (encC c)] [] KS = some (.tup [.d (.v (.pointer none)), I (chkC c)], [.cells 24 (encC c)]) := by
  rw [← sxFnI_eq, n34, bang_t h, br_t, br_t, br_t]
theorem g34c : Good1 Tryz.prog 25 S34c := conGoodL Tryz.func25 (by kernel_rfl) c34 e34 mix (A := A34) fun L r hr hl hF => by
  obtain ⟨q0, l0, rfl, z0, hl1⟩ := lenAs_cons hl
  obtain ⟨a, b, c, d, e, f, g, l, rfl⟩ := eight z0
  have hz := lenAs_nil hl1
  subst hz
  simp only [F34, NAlts, firstAlt] at hF
  by_cases h0 : chkC ⟨a, b, c, d, e, f, g, l⟩ = 0
  · rw [bang_f h0, cond_false, cond_true] at hF
    simp only [Option.some.injEq, Prod.mk.injEq] at hF
    obtain ⟨rfl, rfl⟩ := hF
    have hv := good34 h0
    generalize flC ⟨a, b, c, d, e, f, g, l⟩ = W at *
    refine ⟨⟨trivial, trivial, trivial⟩, ⟨trivial, trivial, trivial, trivial, trivial, trivial, trivial, ⟨trivial, trivial, trivial, trivial, trivial, trivial, trivial, trivial, trivial, trivial, trivial, trivial, trivial, trivial, trivial⟩, trivial⟩, [.dead, .dead, .dead, .dead, .dead, .dead, .rowi 22 .u64 W, .cells 89 (memC ⟨a, b, c, d, e, f, g, l⟩ ac0 6)], [.cells 24 (encC ⟨a, b, c, d, e, f, g, l⟩), .dead, .dead, .rowi 22 .u64 W, .dead, .dead, .rowi 22 .u64 W, .cells 89 (memC ⟨a, b, c, d, e, f, g, l⟩ ac0 6)], RowEq.refl _, ?_, hv⟩
    kernel_rfl
  · rw [bang_t h0, cond_true] at hF
    simp only [Option.some.injEq, Prod.mk.injEq] at hF
    obtain ⟨rfl, rfl⟩ := hF
    have hv := bad34 h0
    exact ⟨⟨trivial, trivial, trivial⟩, trivial, [], [.cells 24 (encC ⟨a, b, c, d, e, f, g, l⟩)], RowEq.refl _, trim_none rfl _, hv⟩
end Go.Sx.Pr
