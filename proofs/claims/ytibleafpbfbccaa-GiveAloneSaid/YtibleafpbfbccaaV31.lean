/- Plain laws of the pure memory. -/
import Derived.Test.YtibleafpbfbccaaR9
import Derived.Test.YtibleafpbfbccaaBt
import Derived.Test.YtibleafpbfbccaaRows
import Derived.KernelRfl
import Derived.Test.YtibleafpbfbccaaR15
import Derived.Test.YtibleafpbfbccaaSxCon3
import Derived.Test.YtibleafpbfbccaaSxCon3
import Derived.Test.YtibleafpbfbccaaR15
import Derived.Test.YtibleafpbfbccaaP1
import Derived.Test.YtibleafpbfbccaaP1
set_option linter.all false
set_option linter.unusedVariables false
set_option linter.unusedSimpArgs false
set_option linter.unnecessarySimpa false
namespace Go.Sx.Pr
open Go Go.Sx Go.Sx.Md

theorem okA {m : Mm} {a : Int} : Mm.ok m a = true ↔ 0 ≤ a ∧ a < (m.ws.length : Int) := by
  simp only [Mm.ok, inB, Bool.and_eq_true, decide_eq_true_eq]
theorem get_set {l : List Int} {i j : Nat} {x : Int} : (l.set i x).getD j 0 = if i = j ∧ i < l.length then x else l.getD j 0 := by
  simp only [List.getD_eq_getElem?_getD, List.getElem?_set]
  by_cases h : i = j
  · subst h
    by_cases h2 : i < l.length
    · simp [h2]
    · simp [h2, List.getElem?_eq_none (Nat.le_of_not_lt h2)]
  · simp [h]
theorem len_mSet' {m : Mm} {g : Bool} {a x : Int} : (mSet m g a x).length = m.ws.length := by
  unfold mSet
  cases g with
  | true => rw [cond_true, List.length_set]
  | false => rfl
theorem ld_set {m m' : Mm} {g : Bool} {a b x : Int} (hg : g = true → Mm.ok m a = true) (h : m'.ws = mSet m g a x) : mLoadV m' b = if g = true ∧ a = b then x else mLoadV m b := by
  have hl : m'.ws.length = m.ws.length := by rw [h, len_mSet']
  have hk : Mm.ok m' b = Mm.ok m b := by simp only [Mm.ok, hl]
  unfold mLoadV
  rw [hk]
  cases hg' : g with
  | false =>
    have : m'.ws = m.ws := by rw [h, hg']; rfl
    simp only [Mm.get, this]
    simp
  | true =>
    have hA := okA.mp (hg hg')
    have hw : m'.ws = m.ws.set a.toNat x := by rw [h, hg']; rfl
    by_cases hab : a = b
    · subst hab
      rw [hg hg', if_pos ⟨rfl, rfl⟩, cond_true]
      simp only [Mm.get, hw, get_set]
      rw [if_pos ⟨trivial, by omega⟩]
    · rw [if_neg (fun hh => hab hh.2)]
      cases hb : Mm.ok m b with
      | false => rfl
      | true =>
        have hB := okA.mp hb
        simp only [cond_true, Mm.get, hw, get_set]
        rw [if_neg (by omega)]
theorem ld_store {m : Mm} {a b x : Int} : mLoadV (mStore m a x) b = if Mm.ok m a = true ∧ a = b then x else mLoadV m b :=
  ld_set (fun h => h) rfl
theorem casB_ok {m : Mm} {a x : Int} (h : mCasB m a x = true) : Mm.ok m a = true := by
  simp only [mCasB, Bool.and_eq_true] at h; exact h.1
theorem ld_cas {m : Mm} {a b x y : Int} : mLoadV (mCas m a x y) b = if mCasB m a x = true ∧ a = b then y else mLoadV m b :=
  ld_set casB_ok rfl
theorem ld_add {m : Mm} {a b x : Int} : mLoadV (mAdd m a x) b = if Mm.ok m a = true ∧ a = b then IntKind.wrap .u64 (mLoadV m a + x) else mLoadV m b := by
  rw [ld_set (m := m) (g := Mm.ok m a) (a := a) (x := IntKind.wrap .u64 (Mm.get m a + x)) (fun h => h) rfl]
  by_cases h : Mm.ok m a = true
  · simp only [mLoadV, h, cond_true]
  · rw [if_neg (fun hh => h hh.1), if_neg (fun hh => h hh.1)]
theorem casB_iff {m : Mm} {a x : Int} (hk : Mm.ok m a = true) : mCasB m a x = true ↔ mLoadV m a = x := by
  simp only [mCasB, mLoadV, hk, Bool.true_and, cond_true, beq_iff_eq]
theorem w64_id {x : Int} (h1 : -9223372036854775808 ≤ x) (h2 : x ≤ 9223372036854775807) : w64' x = x := by
  rw [w64', IntKind.wrap_i64]; omega
theorem wU_id {x : Int} (h1 : 0 ≤ x) (h2 : x < 18446744073709551616) : wU x = x := by
  rw [wU, IntKind.wrap_u64]; omega
end Go.Sx.Pr

namespace Go.Sx.Pr
open Go Go.Sx Go.Proofs
set_option maxRecDepth 100000
def K52_1 : CC := .seq (.reg false [⟨some 4, .mv (.c (.d (.v (.bool true)))), none, 0⟩])
 (.ret)
def L52_2 : CC := .seq (.seq (.reg false [⟨some 11, .mv (.t 5), none, 0⟩,
   ⟨some 12, .mv (.t 0), none, 0⟩,
   ⟨some 13, .len (.t 12), none, 0⟩,
   ⟨some 14, .bin .lss (.t 11) (.t 13), none, 0⟩])
 (.cond 14 (.skip)
   (.exit 0)))
 (.seq (.block 1 (.seq (.reg true [⟨some 17, .mv (.t 0), none, 0⟩,
     ⟨some 18, .mv (.t 5), none, 0⟩,
     ⟨some 19, .ixs 1 (.t 17) (.t 18), none, 3⟩,
     ⟨some 20, .ld 1 false (.t 19), none, 7⟩,
     ⟨some 21, .mv (.t 1), none, 0⟩,
     ⟨some 22, .mv (.t 5), none, 0⟩,
     ⟨some 23, .ixs 1 (.t 21) (.t 22), none, 48⟩,
     ⟨some 24, .ld 1 false (.t 23), none, 112⟩,
     ⟨some 25, .eq .int true (.t 20) (.t 24), none, 255⟩])
   (.cond 25 (.seq (.reg false [⟨some 4, .mv (.c (.d (.v (.bool false)))), none, 0⟩])
     (.ret))
     (.skip))))
 (.reg false [⟨some 15, .mv (.t 5), none, 0⟩,
   ⟨some 16, .bin .add (.t 15) (.c (.d (.v (.int .i64 1)))), none, 0⟩,
   ⟨some 5, .mv (.t 16), none, 0⟩]))
def K52_3 : CC := .reg false [⟨some 5, .mv (.c (.d (.v (.int .i64 0)))), none, 0⟩]
def K52_4 : CC := .seq (.reg false [⟨some 6, .mv (.t 0), none, 0⟩,
   ⟨some 7, .len (.t 6), none, 0⟩,
   ⟨some 8, .mv (.t 1), none, 0⟩,
   ⟨some 9, .len (.t 8), none, 0⟩,
   ⟨some 10, .eq .int true (.t 7) (.t 9), none, 0⟩])
 (.cond 10 (.seq (.reg false [⟨some 4, .mv (.c (.d (.v (.bool false)))), none, 0⟩])
   (.ret))
   (.skip))
def K52_5 : CC := .reg false [⟨some 4, .mv (.c (.d (.v (.bool false)))), none, 0⟩]
/-- coatcheck/coatcheckref02.Ints -/
def C52 : CF := ⟨2, [(4, none)],
 .seq K52_5 (.seq K52_4 (.seq (.seq K52_3 (.block 0 (.loop L52_2))) K52_1))⟩
theorem c52 : coF Try.prog Try.f11 = some C52 := by kernel_rfl
def A52 : Ann := { keep := [0, 1, 4, 5, 10, 14, 25], live := [(0, [0, 1, 5])] }
def E52 {Ω : Type} : Env Ω := enil
theorem e52 : GoodE Try.prog E52 := GoodE.nil
def Z52_2 {Ω : Type} (it : Itr Ω) (K : SV → SH → Option Ω) : SE → SS → Option Ω := kblk 0 (kseq it E52 A52 K52_1 0 (kfn C52 K))
end Go.Sx.Pr

/- Contract: equality of lists of numbers. -/
namespace Go.Sx.Pr
open Go Go.Sx Go.Proofs
set_option maxRecDepth 100000

/-! ### ref02.Ints -/
abbrev S52s (i : Int) (xs ys : List Int) : SS := ⟨[(0, .d (.ints .i64 xs)), (1, .d (.ints .i64 ys)), (5, I i)], []⟩
section
variable {Ω : Type} (it : Itr Ω) (IT : SS → Option Ω) (K : SV → SH → Option Ω) (xs ys : List Int) (i : Int)
theorem r52 : sxFnI it E52 A52 C52 [.d (.ints .i64 xs), .d (.ints .i64 ys)] [] K =
    br (!((xs.length : Int) == (ys.length : Int))) (K (B false) []) (it [0, 1, 5] 0 (sxI it E52 A52 L52_2 0) (S52s 0 xs ys) (Z52_2 it K)) := by kernel_rfl
theorem r52_1 : sxI it E52 A52 L52_2 0 (S52s i xs ys) (kitV [0, 1, 5] 0 IT (Z52_2 it K)) =
    br (decide (i < (xs.length : Int))) (br (inB i xs.length) (br (inB i ys.length) (br (!(xs.getD i.toNat 0 == ys.getD i.toNat 0)) (K (B false) []) (IT (S52s (IntKind.wrap .i64 (i + 1)) xs ys))) none) none) (K (B true) []) := by kernel_rfl
end

theorem loop52 {Ω : Type} (K : SV → SH → Option Ω) {xs ys : List Int} (hl : xs.length = ys.length) (hb : xs.length < 1000000000) : ∀ (k i n : Nat), xs.length - i = k → i ≤ xs.length → k < n →
    iter [0, 1, 5] 0 (sxI itB E52 A52 L52_2 0) n (S52s i xs ys) (Z52_2 itB K) = K (B (decide (xs.drop i = ys.drop i))) []
  | k, i, 0, _, _, h => by omega
  | k, i, n + 1, hk, hi, hn => by
    rw [iter_succ, r52_1]
    by_cases h : i < xs.length
    · have h1 : decide ((i : Int) < (xs.length : Int)) = true := by simp; omega
      have h2 : inB (i : Int) xs.length = true := by simp [inB]; omega
      have h3 : inB (i : Int) ys.length = true := by simp [inB]; omega
      have h4 : IntKind.wrap .i64 ((i : Int) + 1) = ((i + 1 : Nat) : Int) := by rw [w64] <;> omega
      have hy : i < ys.length := by omega
      have e1 : xs.getD ((i : Int)).toNat 0 = xs[i] := by simp [List.getD_eq_getElem?_getD, h]
      have e2 : ys.getD ((i : Int)).toNat 0 = ys[i] := by simp [List.getD_eq_getElem?_getD, hy]
      rw [h1, h2, h3, h4, e1, e2]
      simp only [br, cond_true]
      have hd : (xs.drop i = ys.drop i) ↔ (xs[i] = ys[i] ∧ xs.drop (i + 1) = ys.drop (i + 1)) := by rw [List.drop_eq_getElem_cons h, List.drop_eq_getElem_cons hy, List.cons.injEq]
      have hd' : decide (xs.drop i = ys.drop i) = decide (xs[i] = ys[i] ∧ xs.drop (i + 1) = ys.drop (i + 1)) := decide_eq_decide.2 hd
      rw [hd']
      by_cases e : xs[i] = ys[i]
      · have : (!(xs[i] == ys[i])) = false := by simp [e]
        rw [this]
        simp only [cond_false]
        rw [loop52 K hl hb (k - 1) (i + 1) n (by omega) (by omega) (by omega)]
        simp only [e, true_and]
      · have : (!(xs[i] == ys[i])) = true := by simp [e]
        rw [this]
        simp only [e, false_and, cond_true, decide_false]
    · have h1 : decide ((i : Int) < (xs.length : Int)) = false := by simp; omega
      rw [h1]
      simp only [br, cond_false]
      rw [List.drop_eq_nil_of_le (by omega), List.drop_eq_nil_of_le (by omega)]
      simp

theorem v52 {Ω : Type} (K : SV → SH → Option Ω) (xs ys : List Int) (hb : xs.length < 1000000000) : sxFn E52 A52 C52 [.d (.ints .i64 xs), .d (.ints .i64 ys)] [] K = K (B (decide (xs = ys))) [] := by
  rw [← sxFnI_eq, r52]
  by_cases h : xs.length = ys.length
  · have : (!((xs.length : Int) == (ys.length : Int))) = false := by simp [h]
    rw [this]
    simp only [br, cond_false]
    have := loop52 K h hb xs.length 0 big (by omega) (by omega) (by unfold big; omega)
    simpa [itB] using this
  · have : (!((xs.length : Int) == (ys.length : Int))) = true := by simp; omega
    rw [this]
    have : xs ≠ ys := fun e => h (by rw [e])
    simp [br, this]

def FInts : List (List Int) → Option (Bool × SV × SH)
  | [xs, ys] => some (decide (xs.length < 1000000000), B (decide (xs = ys)), [])
  | _ => none
def S52 {Ω : Type} : Spec Ω := conSpec [.s .i64, .s .i64] FInts
theorem g52 : Good1 Try.prog 11 S52 := conGood Try.func11 (by kernel_rfl) c52 e52 mix (A := A52) fun l r hr hl hF => by
  obtain ⟨xs, q, rfl, _, ys, q', rfl, _, hq⟩ := hl
  simp only [lenAs] at hq
  subst hq
  simp only [FInts, Option.some.injEq, Prod.mk.injEq] at hF
  obtain ⟨h1, rfl, rfl⟩ := hF
  exact ⟨trivial, trivial, _, trim_none rfl _, v52 _ xs ys (by simpa using h1)⟩

end Go.Sx.Pr

namespace Go.Sx.Pr
open Go Go.Sx Go.Proofs
set_option maxRecDepth 100000
end Go.Sx.Pr

namespace Go.Sx.Pr
open Go Go.Sx Go.Proofs
set_option maxRecDepth 100000
end Go.Sx.Pr

/- A worker's states compared; too great a state: what the document's functions answer. -/
namespace Go.Sx.Pr
open Go Go.Sx Go.Sx.Md Go.Proofs
set_option maxRecDepth 100000
def lenW (x : Wk) : Bool := decide (x.rack.length < 1000000000) && (decide (x.hold.length < 1000000000) && (decide (x.read.length < 1000000000) && (decide (x.l0.length < 1000000000) && (decide (x.l1.length < 1000000000) && decide (x.l2.length < 1000000000)))))
theorem bif_nil {α : Type} {b : Bool} {l : List α} {r : SV × SH} {f : List α → Option (SV × SH)} (hf : f [] = none) (h : f (bif b then l else []) = some r) : b = true ∧ f l = some r := by
  cases b with
  | true => exact ⟨rfl, h⟩
  | false => rw [cond_false, hf] at h; cases h
end Go.Sx.Pr

/- Contracts with memory of functions that leave some of the locs as they are. -/
namespace Go.Sx

theorem locC_idx {ls : List Nat} {n l i : Nat} (h : idx l ls 0 = some i) : locC ls n i = l := by
  obtain ⟨_, h2, h3⟩ := idx_some h
  simp only [Nat.sub_zero] at h2 h3
  unfold locC
  rw [show Nat.blt i ls.length = true from Nat.ble_eq_true_of_le h2]
  exact h3

 mutual
theorem ren_unr {ls : List Nat} {n : Nat} : ∀ (x y : SV), unr ls x = some y → ren (locC ls n) y = x
  | .d x, y, e | .rp sz g o, y, e | .top, y, e => by simp only [unr, Option.some.injEq] at e; subst e; simp only [ren]
  | .ptr l o, y, e => by
      simp only [unr] at e; obtain ⟨i, h1, rfl⟩ := onI_some e; simp only [ren, locC_idx h1]
  | .pe l j o, y, e => by
      simp only [unr] at e; obtain ⟨i, h1, rfl⟩ := onI_some e; simp only [ren, locC_idx h1]
  | .own l, y, e => by
      simp only [unr] at e; obtain ⟨i, h1, rfl⟩ := onI_some e; simp only [ren, locC_idx h1]
  | .cs l o sz m c, y, e => by
      simp only [unr] at e; obtain ⟨i, h1, rfl⟩ := onI_some e; simp only [ren, locC_idx h1]
  | .mp l, y, e => by
      simp only [unr] at e; obtain ⟨i, h1, rfl⟩ := onI_some e; simp only [ren, locC_idx h1]
  | .fn g a b, y, e => by
      simp only [unr] at e
      split at e
      · rename_i a' b' ha hb
        simp only [Option.some.injEq] at e; subst e
        simp only [ren, renL_unr a a' ha, renL_unr b b' hb]
      · cases e
  | .agg c, y, e => by
      simp only [unr] at e
      split at e
      · rename_i c' hc
        simp only [Option.some.injEq] at e; subst e
        simp only [ren, renL_unr c c' hc]
      · cases e
  | .tup c, y, e => by
      simp only [unr] at e
      split at e
      · rename_i c' hc
        simp only [Option.some.injEq] at e; subst e
        simp only [ren, renL_unr c c' hc]
      · cases e
  | .md ks c, y, e => by
      simp only [unr] at e
      split at e
      · rename_i c' hc
        simp only [Option.some.injEq] at e; subst e
        simp only [ren, renL_unr c c' hc]
      · cases e
  | .rc c o, y, e => by
      simp only [unr] at e
      split at e
      · rename_i c' hc
        simp only [Option.some.injEq] at e; subst e
        simp only [ren, renL_unr c c' hc]
      · cases e
theorem renL_unr {ls : List Nat} {n : Nat} : ∀ (x y : List SV), unrL ls x = some y → renL (locC ls n) y = x
  | [], y, e => by simp only [unrL, Option.some.injEq] at e; subst e; simp only [renL]
  | x :: r, y, e => by
      simp only [unrL] at e
      split at e
      · rename_i y' s' h1 h2
        simp only [Option.some.injEq] at e; subst e
        simp only [renL, ren_unr x y' h1, renL_unr r s' h2]
      · cases e
end
theorem renO_unr {ls : List Nat} {n : Nat} {o o' : SO} (e : unrO ls o = some o') : renO (locC ls n) o' = o := by
  cases o with
  | cells t c =>
    simp only [unrO] at e
    split at e
    · rename_i c' hc
      simp only [Option.some.injEq] at e; subst e
      simp only [renO, renL_unr c c' hc]
    · cases e
  | maps es => cases e
  | dead => simp only [unrO, Option.some.injEq] at e; subst e; rfl
  | rowi t k xs => simp only [unrO, Option.some.injEq] at e; subst e; rfl
  | row t sz n f => simp only [unrO, Option.some.injEq] at e; subst e; rfl
  | mapi k es => simp only [unrO, Option.some.injEq] at e; subst e; rfl
  | mapb es => simp only [unrO, Option.some.injEq] at e; subst e; rfl

def altsW {Ω : Type} (ls wr sc : List Nat) (k : SV → List Nat → List Nat → SH → Option Ω) (h : SH) : List Alt → Option Ω
  | [] => none
  | (g, r, h1) :: rest => br g (bif Nat.ble ls.length h1.length then k (ren (locC ls h.length) r) wr sc (setLs h ls (renH (locC ls h.length) h1) ++ (renH (locC ls h.length) h1).drop ls.length) else none) (altsW ls wr sc k h rest)

/-- wr: the places of the locs that it may write. -/
def memSpecW (ts : List (Option (List CT))) (find : SH → List SV → Option (List Nat)) (wr : List Nat) (F : List SV → SH → List Alt) {Ω : Type} : Spec Ω := fun args h k =>
  match find h args with
  | none => none
  | some ls => match nrmA ls ts args, unrH ls h ls with
    | some a0, some h0 => bif okLs h.length ls then altsW ls (wr.map fun i => ls.getD i 0) [] k h (F a0 h0) else none
    | _, _ => none

theorem altsW_first {Ω : Type} {ls wr sc : List Nat} {k : SV → List Nat → List Nat → SH → Option Ω} {h : SH} {out : Ω} : ∀ {L : List Alt}, altsW ls wr sc k h L = some out → ∃ r h1, firstAlt L = some (r, h1) ∧ ls.length ≤ h1.length ∧ k (ren (locC ls h.length) r) wr sc (setLs h ls (renH (locC ls h.length) h1) ++ (renH (locC ls h.length) h1).drop ls.length) = some out
  | [], e => by cases e
  | (g, r, h1) :: rest, e => by
    cases g with
    | true =>
      simp only [altsW, br, cond_true] at e
      obtain ⟨e1, e2⟩ := cond_some e
      exact ⟨r, h1, rfl, Nat.le_of_ble_eq_true e1, e2⟩
    | false =>
      obtain ⟨r', hr', h1, h2⟩ := altsW_first (L := rest) e
      exact ⟨r', hr', h1, h2⟩

theorem altsW_of {Ω : Type} {ls wr sc : List Nat} {k : SV → List Nat → List Nat → SH → Option Ω} {h : SH} : ∀ {L : List Alt} {r : SV} {h1 : SH}, firstAlt L = some (r, h1) → ls.length ≤ h1.length → altsW ls wr sc k h L = k (ren (locC ls h.length) r) wr sc (setLs h ls (renH (locC ls h.length) h1) ++ (renH (locC ls h.length) h1).drop ls.length)
  | [], r, hr, e, _ => by cases e
  | (g, r', hr') :: rest, r, hr, e, hl => by
    cases g with
    | true =>
      simp only [firstAlt, cond_true, Option.some.injEq, Prod.mk.injEq] at e
      obtain ⟨rfl, rfl⟩ := e
      simp only [altsW, br, cond_true]
      rw [Nat.ble_eq_true_of_le hl]
      rfl
    | false => exact altsW_of (L := rest) e hl

theorem memW_par {ts : List (Option (List CT))} {find : SH → List SV → Option (List Nat)} {wr : List Nat} {F : List SV → SH → List Alt} {Ω Ω' : Type} : SpecPar (memSpecW ts find wr F (Ω := Ω)) (memSpecW ts find wr F (Ω := Ω')) := by
  intro args h k out hs
  unfold memSpecW at hs ⊢
  split at hs
  · cases hs
  · rename_i ls hls
    split at hs
    · rename_i a0 h0 ha hh
      obtain ⟨e1, hs⟩ := cond_some hs
      obtain ⟨r, h1, k1, k2, k3⟩ := altsW_first hs
      refine ⟨_, _, _, _, k3, fun k' => ?_⟩
      simp only [e1, cond_true]
      exact altsW_of k1 k2
    · cases hs

theorem aside_nil {ls : List Nat} : ∀ {h : SH} {i : Nat}, aside ls [] i h = true
  | [], _ => rfl
  | o :: r, i => by
    simp only [aside, Bool.and_eq_true, Bool.or_eq_true, Bool.not_eq_true']
    refine ⟨.inr ?_, aside_nil⟩
    have : (fun l => nmem l []) = fun _ => false := funext fun l => by simp [nmem]
    rw [this]; exact mentO_none o

theorem memGoodW {P : Program} {g : Nat} {fn : Func} (hf : P.funcs[g]? = some fn) (hname : (fn.name == "runtime.NumGoroutine") = false) {C : CF} (hC : coF P fn = some C) {A : Ann} {e : {Ω : Type} → Env Ω} (he : GoodE P e) (hmix : P.follows .mixedOrders = true)
    {ts : List (Option (List CT))} {find : SH → List SV → Option (List Nat)} {wr : List Nat} {F : List SV → SH → List Alt}
    (hrun : ∀ a0 h0 r h1, firstAlt (F a0 h0) = some (r, h1) → (∀ i, i < h0.length → nmem i wr = false → hget h1 i = hget h0 i) ∧ ∃ r0 hr0 H, LeV r0 r ∧ RowEq hr0 h1 ∧ trim h0.length r0 (List.range h0.length) H = hr0 ∧
      sxFn (e (Ω := SV × SH)) { A with n0 := h0.length, ap := [] } C a0 h0 (fun r h => some (r, h)) = some (r0, H)) :
    Good1 P g (fun {Ω} => memSpecW ts find wr F (Ω := Ω)) := by
  have hbody : ∃ c, fn.body = some c := by
    unfold coF at hC
    split at hC
    · rename_i c hb; exact ⟨c, hb⟩
    · cases hC
  obtain ⟨c, hb⟩ := hbody
  have henter : ∀ (args : Array Value) (w : World), (callFunc g args).run P w = .ok (.enter g args) w := fun args w => by
    have h1 : fn.name ≠ "runtime.NumGoroutine" := by simpa using hname
    simp [callFunc, hf, h1, hb]
  refine ⟨fun Ω => ⟨henter, fun args h k out hs => ?_⟩, fun Ω Ω' => memW_par⟩
  unfold memSpecW at hs
  split at hs
  · cases hs
  · rename_i ls hls
    split at hs
    · rename_i a0 h0 ha hh
      obtain ⟨hok, hs⟩ := cond_some hs
      obtain ⟨r, h1, k1, k2, k3⟩ := altsW_first hs
      obtain ⟨hkeep, r0, hr0, H, hle, heq, htr, hrun⟩ := hrun a0 h0 r h1 k1
      have hlen := (unrH_get hh).1
      refine ⟨_, _, _, _, k3, ⟨by simp only [List.length_append, setLs_length]; omega, fun l hl hlm => ?_⟩, fun cx w vals hg hargs => ?_⟩
      · rw [hget_app, setLs_length, if_pos hl, setLs_get hok rfl (by rw [renH_length]; exact k2)]
        cases hi : idx l ls 0 with
        | none => rfl
        | some i =>
          obtain ⟨_, h2, h3⟩ := idx_some hi
          simp only [Nat.sub_zero] at h2 h3
          simp only
          have hni : nmem i wr = false := by
            cases hb : nmem i wr with
            | false => rfl
            | true =>
              have := nmem_map (ls := ls) hb
              rw [h3, hlm] at this; cases this
          have h4 := (unrH_get hh).2 i h2
          rw [renH_get, hkeep i (by omega) hni, renO_unr h4, h3]
      · have hcalls := fn_calls (A := { A with n0 := h0.length, ap := [] }) (he.ok _) hmix hf hC hrun (cxM cx h ls) w vals (gamM hg hok hh) (nrmA_ok ha hargs)
        refine hcalls.mono fun e w' ⟨v, cxq, e1, grq, hrq, hGq⟩ => ?_
        obtain ⟨cxs, hG, hr, hgrow⟩ := trim_sound (n0 := h0.length) (m := List.range h0.length) hGq hrq
        have gr := hgrow (by simp only [cxM, hlen]; exact Nat.le_refl _) grq
        rw [htr] at hG
        have hG' := hG.rowEq heq
        obtain ⟨q1, q2⟩ := back_gam (ap := []) hg hok (fun i hi => by cases hi) aside_nil (fun i hi hni => by
          simp only [Ann.p, Ann.ok, hni, Bool.or_false]
          cases hb : Nat.ble h0.length i with
          | false => rfl
          | true => have := Nat.le_of_ble_eq_true hb; omega) gr hG' k2
        exact ⟨v, _, e1, q1, SRep.ren (rnR hok (by have := hG'.n; omega)) _ _ (LeV.rep _ _ _ hle hr), q2⟩
    · cases hs
end Go.Sx

/- All: a copy of a memory's words. -/
namespace Go.Sx.Pr
open Go Go.Sx Go.Sx.Md Go.Proofs
set_option maxRecDepth 100000
theorem n33 {m : Mm} {t tw : TypeId} : sxFn (E33 (Ω := SV × SH)) (An A33 2) C33 [.ptr 0 0] (objs LM t tw m) (KT 2) = br (fits m.ws.length 8) (some (.own 2, [.cells t (LM.enc m), .rowi tw .u64 m.ws, .rowi 22 .u64 m.ws])) none := by kernel_rfl
def F33 : List SV → SH → List Alt := fun a0 h0 => match a0, h0 with
  | [.ptr 0 0], [.cells t c, .rowi tw .u64 ws] => bif isM c then [(fits ws.length 8, .own 2, [.cells t c, .rowi tw .u64 ws, .rowi 22 .u64 ws])] else []
  | _, _ => []
def S33c {Ω : Type} : Spec Ω := memSpecW [none] (findM 13) [] F33
theorem g33c : Good1 Try.prog 10 S33c := memGoodW (A := A33) Try.func10 (by kernel_rfl) c33 e33 mix fun a0 h0 r h1 hF => by
  unfold F33 at hF
  split at hF
  · rename_i t c tw ws
    obtain ⟨hc, hF⟩ := bif_nil rfl hF
    cases hl : fits ws.length 8 with
    | false => rw [hl] at hF; cases hF
    | true =>
      rw [hl] at hF
      simp only [firstAlt, cond_true, Option.some.injEq, Prod.mk.injEq] at hF
      obtain ⟨rfl, rfl⟩ := hF
      obtain ⟨e1, e2⟩ := lay_M c ws hc
      have hv := n33 (m := LM.dec c ws) (t := t) (tw := tw)
      rw [show objs LM t tw (LM.dec c ws) = [.cells t c, .rowi tw .u64 ws] by simp only [objs, e1, e2], e1, e2, hl, br_t] at hv
      obtain ⟨H, q3, q4⟩ := kt_of e33 hv
      refine ⟨fun i hi _ => ?_, _, _, H, LeV.refl _, RowEq.refl _, q3, q4⟩
      match i, hi with
      | 0, _ => rfl
      | 1, _ => rfl
      | i + 2, hi => exact absurd hi (by simp only [List.length_cons, List.length_nil]; omega)
  · cases hF
end Go.Sx.Pr

/- All's list as data. -/
namespace Go.Sx.Pr
open Go Go.Sx Go.Sx.Md Go.Proofs
set_option maxRecDepth 100000
def FAllD : List (List Int) → List (Bool × Nat × Nat × (Nat → Nat → Value))
  | [[a, b, c, d, e, f, g, l]] => [(chk a b c d e f g l == 0, 3, sizeN a.toNat b.toNat c.toNat d.toNat e.toNat, fun i j => .int .i64 (spot a.toNat b.toNat d.toNat e.toNat i j))]
  | _ => []
def S20d {Ω : Type} : Spec Ω := conSpecD [.g cfgK] FAllD
theorem g20d : Good1 Try.prog 19 S20d := conGoodD Try.func19 (by kernel_rfl) c20 e20 mix (A := A20) fun L sz n f hl hF => by
  obtain ⟨x, rfl, hx⟩ := lenAs_one hl
  obtain ⟨a, b, c, d, e, ff, g, i, rfl⟩ := eight hx
  simp only [FAllD, firstD] at hF
  cases h : (chk a b c d e ff g i == 0) with
  | false => rw [h] at hF; cases hF
  | true =>
    rw [h] at hF
    simp only [cond_true, Option.some.injEq, Prod.mk.injEq] at hF
    obtain ⟨rfl, rfl, rfl⟩ := hF
    refine ⟨3, _, _, _, v20 _ (by simpa using h), rfl, fun i hi j hj => qAll_spot hi hj⟩
end Go.Sx.Pr

namespace Go.Sx.Pr
open Go Go.Sx Go.Proofs
set_option maxRecDepth 100000
/-- coatcheck/coatcheckref03.Great -/
def C16 : CF := ⟨1, [(2, none)],
 .seq (.reg false [⟨some 1, .box 24 8 (.t 0), none, 0⟩,
   ⟨some 2, .mv (.c (.d (.v (.bool false)))), none, 0⟩])
 (.seq (.reg false [⟨some 3, .ld 8 true (.t 1), none, 0⟩,
   ⟨some 4, .call (.c (.fn (.func 20) [] [])) [.t 3], none, 0⟩,
   ⟨some 5, .eq .int false (.t 4) (.c (.d (.v (.int .i64 0)))), none, 0⟩,
   ⟨some 6, .mv (.t 5), none, 0⟩,
   ⟨some 7, .fa 1 (.t 1), some (6, true), 0⟩,
   ⟨some 8, .ld 1 false (.t 7), some (6, true), 0⟩,
   ⟨some 9, .fa 2 (.t 1), some (6, true), 0⟩,
   ⟨some 10, .ld 1 false (.t 9), some (6, true), 0⟩,
   ⟨some 11, .bin .mul (.t 8) (.t 10), some (6, true), 0⟩,
   ⟨some 12, .bin .gtr (.t 11) (.c (.d (.v (.int .i64 40)))), some (6, true), 0⟩,
   ⟨some 13, .mv (.t 12), some (6, true), 0⟩,
   ⟨some 14, .fa 4 (.t 1), some (13, false), 0⟩,
   ⟨some 15, .ld 1 false (.t 14), some (13, false), 0⟩,
   ⟨some 16, .bin .gtr (.t 15) (.c (.d (.v (.int .i64 16)))), some (13, false), 0⟩,
   ⟨some 17, .pick (.t 13) (.c (.d (.v (.bool true)))) (.t 16), some (6, true), 0⟩,
   ⟨some 18, .pick (.t 6) (.t 17) (.c (.d (.v (.bool false)))), none, 0⟩,
   ⟨some 2, .mv (.t 18), none, 0⟩])
 (.ret))⟩
theorem c16 : coF Try.prog Try.f16 = some C16 := by kernel_rfl
def A16 : Ann := { keep := [0, 1, 2], live := [] }
def E16 {Ω : Type} : Env Ω := econs 20 S19 (enil)
theorem e16 : GoodE Try.prog E16 := GoodE.cons g19 (GoodE.nil)
def S16 {Ω : Type} : Spec Ω := inl E16 A16 C16 false
theorem g16 : Good1 Try.prog 16 S16 := Good1.inl e16 mix Try.func16 (by kernel_rfl) c16 A16 false
def K18_1 : CC := .seq (.block 0 (.seq (.reg false [⟨some 14, .mv (.t 7), none, 0⟩,
     ⟨some 15, .eq .int true (.t 14) (.c (.d (.v (.int .i64 0)))), none, 0⟩,
     ⟨some 13, .mv (.t 15), none, 0⟩])
   (.cond 13 (.seq (.reg false [⟨some 16, .mv (.t 7), none, 0⟩,
       ⟨some 4, .mv (.c (.d (.v (.pointer none)))), none, 0⟩,
       ⟨some 5, .mv (.t 16), none, 0⟩])
     (.ret))
     (.seq (.reg false [⟨some 18, .mv (.t 1), none, 0⟩,
       ⟨some 19, .len (.t 18), none, 0⟩,
       ⟨some 20, .ld 8 true (.t 6), none, 0⟩,
       ⟨some 21, .call (.c (.fn (.func 34) [] [])) [.t 20], none, 0⟩,
       ⟨some 22, .eq .int true (.t 19) (.t 21), none, 0⟩,
       ⟨some 17, .mv (.t 22), none, 0⟩])
     (.cond 17 (.seq (.reg false [⟨some 4, .mv (.c (.d (.v (.pointer none)))), none, 0⟩,
         ⟨some 5, .mv (.c (.d (.v (.int .i64 3)))), none, 0⟩])
       (.ret))
       (.skip))))))
 (.seq (.reg true [⟨some 23, .ld 8 true (.t 6), none, 0⟩,
   ⟨some 24, .mv (.t 1), none, 0⟩,
   ⟨some 25, .call (.c (.fn (.func 27) [] [])) [.t 24], none, 2⟩,
   ⟨some 26, .bld [.d (.v (.int .i64 0)), .d (.v (.int .i64 0)), .d (.v (.int .i64 0)), .d (.v (.int .i64 0)), .d (.v (.int .i64 0)), .d (.v (.int .i64 0)), .d (.v (.int .i64 0)), .d (.v (.int .u64 0)), .d (.v (.int .i64 0)), .d (.v (.int .i64 0)), .d (.v (.int .u64 0)), .d (.v (.int .u64 0)), .d (.v (.int .u64 0)), .d (.v (.slice none 0 0))] [(0, 8, .t 23), (13, 1, .t 25)], none, 7⟩,
   ⟨some 27, .box 61 14 (.t 26), none, 15⟩,
   ⟨some 4, .mv (.t 27), none, 31⟩,
   ⟨some 5, .mv (.c (.d (.v (.int .i64 0)))), none, 63⟩])
 (.ret))
def K18_2 : CC := .reg false [⟨some 9, .ld 8 true (.t 2), none, 0⟩,
   ⟨some 10, .call (.c (.fn (.func 33) [] [])) [.t 9], none, 0⟩,
   ⟨some 8, .mv (.t 10), none, 0⟩,
   ⟨some 11, .ext 0 (.t 8), none, 0⟩,
   ⟨some 12, .ext 1 (.t 8), none, 0⟩,
   ⟨some 6, .newc 57 [.d (.v (.int .i64 0)), .d (.v (.int .i64 0)), .d (.v (.int .i64 0)), .d (.v (.int .i64 0)), .d (.v (.int .i64 0)), .d (.v (.int .i64 0)), .d (.v (.int .i64 0)), .d (.v (.int .u64 0))], none, 0⟩,
   ⟨none, .st 8 (.t 6) (.t 11), none, 0⟩,
   ⟨some 7, .mv (.t 12), none, 0⟩]
def K18_3 : CC := .reg false [⟨some 2, .box 24 8 (.t 0), none, 0⟩,
   ⟨some 4, .mv (.c (.d (.v (.pointer none)))), none, 0⟩,
   ⟨some 5, .mv (.c (.d (.v (.int .i64 0)))), none, 0⟩]
/-- coatcheck/memory.From -/
def C18 : CF := ⟨2, [(4, none), (5, none)],
 .seq K18_3 (.seq K18_2 K18_1)⟩
theorem c18 : coF Try.prog Try.f17 = some C18 := by kernel_rfl
def A18 : Ann := { keep := [0, 1, 2, 4, 5, 6, 7, 13, 17], live := [] }
def E18 {Ω : Type} : Env Ω := econs 27 S65 (econs 33 S63 (econs 34 S64 (enil)))
theorem e18 : GoodE Try.prog E18 := GoodE.cons g65 (GoodE.cons g63 (GoodE.cons g64 (GoodE.nil)))
def S18 {Ω : Type} : Spec Ω := inl E18 A18 C18 false
theorem g18 : Good1 Try.prog 17 S18 := Good1.inl e18 mix Try.func17 (by kernel_rfl) c18 A18 false
/-- coatcheck/memory.New -/
def C34 : CF := ⟨1, [(2, none), (3, none)],
 .seq (.reg false [⟨some 1, .box 24 8 (.t 0), none, 0⟩,
   ⟨some 2, .mv (.c (.d (.v (.pointer none)))), none, 0⟩,
   ⟨some 3, .mv (.c (.d (.v (.int .i64 0)))), none, 0⟩])
 (.seq (.reg true [⟨some 4, .ld 8 true (.t 1), none, 0⟩,
   ⟨some 5, .ld 8 true (.t 1), none, 0⟩,
   ⟨some 6, .call (.c (.fn (.func 29) [] [])) [.t 5], none, 2⟩,
   ⟨some 7, .call (.c (.fn (.func 17) [] [])) [.t 4, .t 6], none, 7⟩,
   ⟨some 8, .ext 0 (.t 7), none, 15⟩,
   ⟨some 9, .ext 1 (.t 7), none, 15⟩,
   ⟨some 2, .mv (.t 8), none, 63⟩,
   ⟨some 3, .mv (.t 9), none, 127⟩])
 (.ret))⟩
theorem c34 : coF Try.prog Try.f13 = some C34 := by kernel_rfl
def A34 : Ann := { keep := [0, 1, 2, 3], live := [] }
def E34 {Ω : Type} : Env Ω := econs 17 S18 (econs 29 S68 (enil))
theorem e34 : GoodE Try.prog E34 := GoodE.cons g18 (GoodE.cons g68 (GoodE.nil))
def K44_1 : CC := .seq (.reg true [⟨some 22, .mv (.t 7), none, 0⟩,
   ⟨some 23, .ld 8 true (.t 2), none, 0⟩,
   ⟨some 24, .mv (.t 1), none, 0⟩,
   ⟨some 25, .call (.c (.fn (.func 18) [] [])) [.t 24], none, 4⟩,
   ⟨some 26, .bld [.d (.v (.int .i64 0)), .d (.v (.int .i64 0)), .d (.v (.int .i64 0)), .d (.v (.int .i64 0)), .d (.v (.int .i64 0)), .d (.v (.int .i64 0)), .d (.v (.int .i64 0)), .d (.v (.int .u64 0)), .d (.v (.slice none 0 0)), .d (.v (.int .i64 0)), .d (.v (.int .i64 0)), .d (.v (.int .u64 0)), .d (.v (.int .u64 0)), .d (.v (.int .u64 0))] [(0, 8, .t 23), (8, 1, .t 25)], none, 14⟩,
   ⟨some 27, .box 66 14 (.t 26), none, 30⟩,
   ⟨some 28, .mv (.t 8), none, 0⟩,
   ⟨some 29, .eq .int false (.t 28) (.c (.d (.v (.int .i64 0)))), none, 64⟩,
   ⟨some 30, .mv (.t 29), none, 204⟩,
   ⟨some 31, .mv (.t 7), some (30, true), 460⟩,
   ⟨some 32, .eq .ptr true (.t 31) (.c (.d (.v (.pointer none)))), some (30, true), 972⟩,
   ⟨some 33, .pick (.t 30) (.t 32) (.c (.d (.v (.bool false)))), none, 1996⟩,
   ⟨some 34, .mv (.t 33), none, 4044⟩,
   ⟨some 35, .mv (.t 1), some (34, true), 8140⟩,
   ⟨some 36, .len (.t 35), some (34, true), 16332⟩,
   ⟨some 37, .ld 8 true (.t 2), some (34, true), 8140⟩,
   ⟨some 38, .call (.c (.fn (.func 19) [] [])) [.t 37], some (34, true), 40908⟩,
   ⟨some 39, .len (.t 38), some (34, true), 106444⟩,
   ⟨some 40, .eq .int false (.t 36) (.t 39), some (34, true), 262092⟩,
   ⟨some 41, .pick (.t 34) (.t 40) (.c (.d (.v (.bool false)))), none, 524236⟩,
   ⟨some 4, .mv (.t 22), none, 106445⟩,
   ⟨some 5, .mv (.t 27), none, 1155071⟩,
   ⟨some 6, .mv (.t 41), none, 4194303⟩])
 (.ret)
def K44_2 : CC := .reg false [⟨some 17, .ld 8 true (.t 2), none, 0⟩,
   ⟨some 18, .mv (.t 1), none, 0⟩,
   ⟨some 19, .call (.c (.fn (.func 17) [] [])) [.t 17, .t 18], none, 0⟩,
   ⟨some 16, .mv (.t 19), none, 0⟩,
   ⟨some 20, .ext 0 (.t 16), none, 0⟩,
   ⟨some 21, .ext 1 (.t 16), none, 0⟩,
   ⟨some 7, .mv (.t 20), none, 0⟩,
   ⟨some 8, .mv (.t 21), none, 0⟩]
def K44_3 : CC := .seq (.reg false [⟨some 9, .ld 8 true (.t 2), none, 0⟩,
   ⟨some 10, .call (.c (.fn (.func 16) [] [])) [.t 9], none, 0⟩,
   ⟨some 11, .mv (.t 10), none, 0⟩,
   ⟨some 12, .mv (.t 1), some (11, false), 0⟩,
   ⟨some 13, .len (.t 12), some (11, false), 0⟩,
   ⟨some 14, .bin .gtr (.t 13) (.c (.d (.v (.int .i64 400)))), some (11, false), 0⟩,
   ⟨some 15, .pick (.t 11) (.c (.d (.v (.bool true)))) (.t 14), none, 0⟩])
 (.cond 15 (.seq (.reg false [⟨some 4, .mv (.c (.d (.v (.pointer none)))), none, 0⟩,
     ⟨some 5, .mv (.c (.d (.v (.pointer none)))), none, 0⟩,
     ⟨some 6, .mv (.c (.d (.v (.bool false)))), none, 0⟩])
   (.ret))
   (.skip))
def K44_4 : CC := .reg false [⟨some 2, .box 24 8 (.t 0), none, 0⟩,
   ⟨some 4, .mv (.c (.d (.v (.pointer none)))), none, 0⟩,
   ⟨some 5, .mv (.c (.d (.v (.pointer none)))), none, 0⟩,
   ⟨some 6, .mv (.c (.d (.v (.bool false)))), none, 0⟩]
/-- coatcheck/coatchecklaw06.Both -/
def C44 : CF := ⟨2, [(4, none), (5, none), (6, none)],
 .seq K44_4 (.seq K44_3 (.seq K44_2 K44_1))⟩
theorem c44 : coF Try.prog Try.f5 = some C44 := by kernel_rfl
def A44 : Ann := { keep := [0, 1, 2, 4, 5, 6, 7, 8, 15], live := [], pu := [19] }
def E44 {Ω : Type} : Env Ω := econs 16 S16 (econs 17 S18 (econs 18 S17 (econs 19 S20d (enil))))
theorem e44 : GoodE Try.prog E44 := GoodE.cons g16 (GoodE.cons g18 (GoodE.cons g17 (GoodE.cons g20d (GoodE.nil))))
end Go.Sx.Pr

/- Memory objects with their row's loc. -/
namespace Go.Sx.Pr
open Go Go.Sx Go.Sx.Md
def memC (c : Cf) (s : Ac) (o : Nat) : List SV := [I c.a, I c.b, I c.c, I c.d, I c.e, I c.f, I c.g, U c.l, I s.k, I s.a, U s.x, U s.y, U s.o, .own o]
def memD (c : Cf) (s : Ac) (o : Nat) : List SV := [I c.a, I c.b, I c.c, I c.d, I c.e, I c.f, I c.g, U c.l, .own o, I s.k, I s.a, U s.x, U s.y, U s.o]
end Go.Sx.Pr

/- The steps laws: what all of them need. -/
namespace Go.Sx.Pr
open Go Go.Sx Go.Sx.Md Go.Proofs
set_option maxRecDepth 100000

/-- True, with some heap. -/
def Tru (o : Option (SV × SH)) : Prop := ∃ H, o = some (B true, H)
theorem Tru.br {b : Bool} {x y : Option (SV × SH)} (h1 : b = true → Tru x) (h2 : b = false → Tru y) : Tru (br b x y) := by
  cases b with
  | true => exact h1 rfl
  | false => exact h2 rfl
theorem tru_ret {H : SH} : Tru (KS (B true) H) := ⟨H, rfl⟩

def szC (c : Cf) : Int := szZ c.a c.b c.c c.d c.e c.f c.g c.l

/-- What a step leaves well formed. -/
def Pres (m : Mm) (x : Wk) (r : SR) : Prop := okM r.m = true ∧ okW r.x = true ∧ lenW r.x = lenW x ∧ r.m.ws.length = m.ws.length ∧ r.m.c = m.c
theorem Pres.cond {m : Mm} {x : Wk} {a b : SR} {t : Bool} (ha : Pres m x a) (hb : Pres m x b) : Pres m x (bif t then a else b) := by
  cases t with
  | true => exact ha
  | false => exact hb
theorem len_mSet {m : Mm} {g : Bool} {a x : Int} : (mSet m g a x).length = m.ws.length := by
  unfold mSet
  cases g with
  | true => rw [cond_true, List.length_set]
  | false => rfl
theorem uB_low {v : Int} (h : uB v = true) : uB (v % 4294967296) = true := uB_mod h (by decide) (by decide)
section
variable {m : Mm} {x : Wk} (hm : okM m = true) (hx : okW x = true)
 include hm hx
theorem presL {h k b p : Int} : Pres m x (stepL h k b p m x) := by
  obtain ⟨b1, b2, b3, b4, b5, b6, b7, b8, b9, b10, b11, b12⟩ := okW_all hx
  have hu := okM_u hm
  unfold stepL
  split
  · refine Pres.cond ?_ ?_
    · exact ⟨okM_load hm, (by simp only [okW, b1, b2, b3, b4, b5, b6, b7, b8, b9, b10, b11, b12, uB_load hu, uB_low (uB_load hu), Bool.and_self]), rfl, rfl, rfl⟩
    · exact ⟨okM_load hm, (by simp only [okW, b1, b2, b3, b4, b5, b6, b7, b8, b9, b10, b11, b12, uB_load hu, uB_low (uB_load hu), Bool.and_self]), rfl, rfl, rfl⟩
  · split
    · exact ⟨okM_load hm, (by simp only [okW, b1, b2, b3, b4, b5, b6, b7, b8, b9, b10, b11, b12, uB_load hu, uB_low (uB_load hu), Bool.and_self]), rfl, rfl, rfl⟩
    · split
      · refine Pres.cond ?_ ?_
        · exact ⟨okM_cas hm uB_pHead, (by simp only [okW, b1, b2, b3, b4, b5, b6, b7, b8, b9, b10, b11, b12, uB_load hu, uB_low (uB_load hu), Bool.and_self]), rfl, len_mSet, rfl⟩
        · exact ⟨okM_cas hm uB_pHead, (by simp only [okW, b1, b2, b3, b4, b5, b6, b7, b8, b9, b10, b11, b12, uB_load hu, uB_low (uB_load hu), Bool.and_self]), rfl, len_mSet, rfl⟩
      · split
        · exact ⟨okM_load hm, (by simp only [okW, b1, b2, b3, b4, b5, b6, b7, b8, b9, b10, b11, b12, uB_load hu, uB_low (uB_load hu), Bool.and_self]), rfl, rfl, rfl⟩
        · split
          · exact ⟨okM_store hm (uB_low b9), (by simp only [okW, b1, b2, b3, b4, b5, b6, b7, b8, b9, b10, b11, b12, uB_load hu, uB_low (uB_load hu), Bool.and_self]), rfl, len_mSet, rfl⟩
          · refine Pres.cond ?_ ?_
            · exact ⟨okM_cas hm uB_pHead, (by simp only [okW, b1, b2, b3, b4, b5, b6, b7, b8, b9, b10, b11, b12, uB_load hu, uB_low (uB_load hu), Bool.and_self]), rfl, len_mSet, rfl⟩
            · exact ⟨okM_cas hm uB_pHead, (by simp only [okW, b1, b2, b3, b4, b5, b6, b7, b8, b9, b10, b11, b12, uB_load hu, uB_low (uB_load hu), Bool.and_self]), rfl, len_mSet, rfl⟩
theorem presS : Pres m x (stepS m x) := by
  unfold stepS
  split
  · exact presL hm hx
  · split
    · exact presL hm hx
    · exact ⟨hm, hx, rfl, rfl, rfl⟩
end
end Go.Sx.Pr

/- Helpers: results with some heap, sizes, addresses. Plain Lean. -/
namespace Go.Sx.Pr
open Go Go.Sx Go.Sx.Md Go.Proofs
set_option maxRecDepth 100000

/-- A run's result, with some heap. -/
def GivesV (o : Option (SV × SH)) (r : SV) : Prop := ∃ H, o = some (r, H)
theorem givesV {r : SV} {H : SH} : GivesV (KS r H) r := ⟨H, rfl⟩
theorem GivesV.br {b : Bool} {x y : Option (SV × SH)} {r : SV} (h1 : b = true → GivesV x r) (h2 : b = false → GivesV y r) : GivesV (br b x y) r := by
  cases b with
  | true => exact h1 rfl
  | false => exact h2 rfl
theorem bang_t {x y : Int} (h : ¬ x = y) : (!x == y) = true := by simp [h]
theorem bang_f {x y : Int} (h : x = y) : (!x == y) = false := by simp [h]

theorem szC_eq {c : Cf} (h : chkC c = 0) : szC c = ((sizeN c.a.toNat c.b.toNat c.c.toNat c.d.toNat c.e.toNat : Nat) : Int) := by
  have h' : chk c.a c.b c.c c.d c.e c.f c.g c.l = 0 := h
  simp [szC, szZ, h']
theorem u64B_at {ws : List Int} (h : u64B ws = true) {i : Nat} (hi : i < ws.length) : 0 ≤ ws.getD i 0 ∧ ws.getD i 0 ≤ 18446744073709551615 := by
  rw [List.getD_eq_getElem?_getD, List.getElem?_eq_getElem hi]
  have := List.all_eq_true.1 h _ (List.getElem_mem hi)
  simpa using this
theorem u64B_all {ws : List Int} (h : u64B ws = true) (i : Nat) : uB (ws.getD i 0) = true := by
  rw [uB_iff]
  by_cases hi : i < ws.length
  · exact u64B_at h hi
  · rw [List.getD_eq_getElem?_getD, List.getElem?_eq_none (by omega)]; simp
theorem adr2 {c : Cf} (hc : chkC c = 0) (j : Int) : adr c 2 j = if 0 ≤ j ∧ j < c.b then 3 + c.a + j else -1 := at2 hc j
theorem inB_of' {i : Int} {n : Nat} (h0 : 0 ≤ i) (h1 : i < n) : inB i n = true := by simp only [inB, Bool.and_eq_true, decide_eq_true_eq]; exact ⟨h0, h1⟩
end Go.Sx.Pr

namespace Go.Sx.Pr
open Go Go.Sx Go.Proofs
set_option maxRecDepth 100000
end Go.Sx.Pr

namespace Go.Sx.Pr
open Go Go.Sx Go.Proofs
set_option maxRecDepth 100000
end Go.Sx.Pr

/- Contracts: a ticket's form, and the block of a live ticket, program and document. -/
namespace Go.Sx.Pr
open Go Go.Sx Go.Sx.Md Go.Proofs
set_option maxRecDepth 100000

/-- Is a ticket well-formed? -/
def goodV (c : Cf) (t : Int) : Bool := (chkC c == 0) && (decide (t % 65536 - 1 ≥ 0) && (decide (t % 65536 - 1 < c.e) && (decide (t / 65536 ≥ 1) && decide (t / 65536 ≤ c.l))))
/-- The block of a live ticket. -/
def liveE (c : Cf) (ws : List Int) (t : Int) : Int × Bool :=
  bif (chkC c == 0) && (((ws.length : Int) == szC c) && (goodV c t && liveV (ws.getD (adr c 3 (tE t)).toNat 0) (tG t))) then (ws.getD (adr c 3 (tE t)).toNat 0 / 16 % 65536 - 1, true) else (-1, false)
theorem adr3 {c : Cf} (hc : chkC c = 0) (j : Int) : adr c 3 j = if 0 ≤ j ∧ j < c.e then 3 + c.a + c.b + 2 * j else -1 := at3 hc j
theorem goodV_at {c : Cf} {t : Int} (h : goodV c t = true) : 0 ≤ tE t ∧ tE t < c.e ∧ 1 ≤ tG t ∧ tG t ≤ c.l := by
  unfold goodV at h
  simp only [Bool.and_eq_true, decide_eq_true_eq, beq_iff_eq] at h
  exact ⟨h.2.1, h.2.2.1, h.2.2.2.1, h.2.2.2.2⟩
theorem inBE {c : Cf} {n : Nat} {j : Int} (hc : chkC c = 0) (hn : (n : Int) = szC c) (h0 : 0 ≤ j) (h1 : j < c.e) : inB (adr c 3 j) n = true := by
  rw [adr3 hc, if_pos ⟨h0, h1⟩]
  have hs := szC_eq hc
  obtain ⟨⟨a1, a2⟩, ⟨b1, b2⟩, _⟩ := chk_zero hc
  refine inB_of' (by omega) ?_
  unfold sizeN at hs
  omega

section
variable {c : Cf} {ws : List Int} {t : Int}
theorem liveE_at (h0 : chkC c = 0) (h1 : (ws.length : Int) = szC c) (h2 : goodV c t = true) : liveE c ws t = bif liveV (ws.getD (adr c 3 (tE t)).toNat 0) (tG t) then (ws.getD (adr c 3 (tE t)).toNat 0 / 16 % 65536 - 1, true) else (-1, false) := by
  unfold liveE; simp [h0, h1, h2]
end
end Go.Sx.Pr

/- The contract of memory.New. -/
namespace Go.Sx.Pr
open Go Go.Sx Go.Sx.Md Go.Proofs
set_option maxRecDepth 100000

theorem n34 {Ω : Type} (it : Itr Ω) (K : SV → SH → Option Ω) (c : Cf) :
    sxFnI it E34 A34 C34 [.agg (encC c)] [] K =
    br (!chkC c == 0) (br (!chkC c == 0) (br (!chkC c == 0) (K (.tup [.d (DV.v (Value.pointer none)), I (chkC c)]) [.cells 24 (encC c)]) (K (.tup [.ptr 4 0, I 0]) [.cells 24 (encC c), .dead, .dead, .rowi 22 .u64 [], .cells 61 [I 0, I 0, I 0, I 0, I 0, I 0, I 0, U 0, I 0, I 0, U 0, U 0, U 0, .own 3]])) (br (!0 == szC c) (K (.tup [.d (DV.v (Value.pointer none)), I 3]) [.cells 24 (encC c)]) (K (.tup [.ptr 4 0, I 0]) [.cells 24 (encC c), .dead, .dead, .rowi 22 .u64 [], .cells 61 (memC c ac0 3)]))) (br (!chkC c == 0) (br (!chkC c == 0) (K (.tup [.d (DV.v (Value.pointer none)), I (chkC c)]) [.cells 24 (encC c), .dead, .dead, .rowi 22 .u64 (fl (sizeN (Int.toNat (Cf.a c)) (Int.toNat (Cf.b c)) (Int.toNat (Cf.c c)) (Int.toNat (Cf.d c)) (Int.toNat (Cf.e c))) (3 + Int.toNat (Cf.a c) + Int.toNat (Cf.b c)) (Int.toNat (Cf.e c)) (Int.toNat (Cf.e c)))]) (br (! (↑ (List.length (fl (sizeN (Int.toNat (Cf.a c)) (Int.toNat (Cf.b c)) (Int.toNat (Cf.c c)) (Int.toNat (Cf.d c)) (Int.toNat (Cf.e c))) (3 + Int.toNat (Cf.a c) + Int.toNat (Cf.b c)) (Int.toNat (Cf.e c)) (Int.toNat (Cf.e c)))) : Int) == 0) (K (.tup [.d (DV.v (Value.pointer none)), I 3]) [.cells 24 (encC c), .dead, .dead, .rowi 22 .u64 (fl (sizeN (Int.toNat (Cf.a c)) (Int.toNat (Cf.b c)) (Int.toNat (Cf.c c)) (Int.toNat (Cf.d c)) (Int.toNat (Cf.e c))) (3 + Int.toNat (Cf.a c) + Int.toNat (Cf.b c)) (Int.toNat (Cf.e c)) (Int.toNat (Cf.e c)))]) (br (fits (List.length (fl (sizeN (Int.toNat (Cf.a c)) (Int.toNat (Cf.b c)) (Int.toNat (Cf.c c)) (Int.toNat (Cf.d c)) (Int.toNat (Cf.e c))) (3 + Int.toNat (Cf.a c) + Int.toNat (Cf.b c)) (Int.toNat (Cf.e c)) (Int.toNat (Cf.e c)))) 8) (K (.tup [.ptr 7 0, I 0]) [.cells 24 (encC c), .dead, .dead, .rowi 22 .u64 (fl (sizeN (Int.toNat (Cf.a c)) (Int.toNat (Cf.b c)) (Int.toNat (Cf.c c)) (Int.toNat (Cf.d c)) (Int.toNat (Cf.e c))) (3 + Int.toNat (Cf.a c) + Int.toNat (Cf.b c)) (Int.toNat (Cf.e c)) (Int.toNat (Cf.e c))), .dead, .dead, .rowi 22 .u64 (fl (sizeN (Int.toNat (Cf.a c)) (Int.toNat (Cf.b c)) (Int.toNat (Cf.c c)) (Int.toNat (Cf.d c)) (Int.toNat (Cf.e c))) (3 + Int.toNat (Cf.a c) + Int.toNat (Cf.b c)) (Int.toNat (Cf.e c)) (Int.toNat (Cf.e c))), .cells 61 [I 0, I 0, I 0, I 0, I 0, I 0, I 0, U 0, I 0, I 0, U 0, U 0, U 0, .own 6]]) none))) (br (! (↑ (List.length (fl (sizeN (Int.toNat (Cf.a c)) (Int.toNat (Cf.b c)) (Int.toNat (Cf.c c)) (Int.toNat (Cf.d c)) (Int.toNat (Cf.e c))) (3 + Int.toNat (Cf.a c) + Int.toNat (Cf.b c)) (Int.toNat (Cf.e c)) (Int.toNat (Cf.e c)))) : Int) == szC c) (K (.tup [.d (DV.v (Value.pointer none)), I 3]) [.cells 24 (encC c), .dead, .dead, .rowi 22 .u64 (fl (sizeN (Int.toNat (Cf.a c)) (Int.toNat (Cf.b c)) (Int.toNat (Cf.c c)) (Int.toNat (Cf.d c)) (Int.toNat (Cf.e c))) (3 + Int.toNat (Cf.a c) + Int.toNat (Cf.b c)) (Int.toNat (Cf.e c)) (Int.toNat (Cf.e c)))]) (br (fits (List.length (fl (sizeN (Int.toNat (Cf.a c)) (Int.toNat (Cf.b c)) (Int.toNat (Cf.c c)) (Int.toNat (Cf.d c)) (Int.toNat (Cf.e c))) (3 + Int.toNat (Cf.a c) + Int.toNat (Cf.b c)) (Int.toNat (Cf.e c)) (Int.toNat (Cf.e c)))) 8) (K (.tup [.ptr 7 0, I 0]) [.cells 24 (encC c), .dead, .dead, .rowi 22 .u64 (fl (sizeN (Int.toNat (Cf.a c)) (Int.toNat (Cf.b c)) (Int.toNat (Cf.c c)) (Int.toNat (Cf.d c)) (Int.toNat (Cf.e c))) (3 + Int.toNat (Cf.a c) + Int.toNat (Cf.b c)) (Int.toNat (Cf.e c)) (Int.toNat (Cf.e c))), .dead, .dead, .rowi 22 .u64 (fl (sizeN (Int.toNat (Cf.a c)) (Int.toNat (Cf.b c)) (Int.toNat (Cf.c c)) (Int.toNat (Cf.d c)) (Int.toNat (Cf.e c))) (3 + Int.toNat (Cf.a c) + Int.toNat (Cf.b c)) (Int.toNat (Cf.e c)) (Int.toNat (Cf.e c))), .cells 61 (memC c ac0 6)]) none))) := by kernel_rfl

/-- A new memory's words. -/
def flC (c : Cf) : List Int := fl (sizeN c.a.toNat c.b.toNat c.c.toNat c.d.toNat c.e.toNat) (3 + c.a.toNat + c.b.toNat) c.e.toNat c.e.toNat
theorem flC_len {c : Cf} (h : chkC c = 0) : ((flC c).length : Int) = szC c := by unfold flC; rw [fl_length, szC_eq h]
theorem szC_le {c : Cf} (h : chkC c = 0) : szC c ≤ 1000 := by
  have := size_le (a := c.a) (b := c.b) (c := c.c) (d := c.d) (e := c.e) (f := c.f) (g := c.g) (l := c.l) h
  have h2 := szC_eq h
  omega
def NAlts (c : Cf) : List (Bool × SV × SH) :=
  [(!(chkC c == 0), .tup [.d (.v (.pointer none)), I (chkC c)], []), (true, .tup [.ptr 7 0, I 0], [.dead, .dead, .dead, .dead, .dead, .dead, .rowi 22 .u64 (flC c), .cells 61 (memC c ac0 6)])]
def F34 : List (List Int) → List (Bool × SV × SH)
  | [[a, b, c, d, e, f, g, l]] => NAlts ⟨a, b, c, d, e, f, g, l⟩
  | _ => []
def S34c {Ω : Type} : Spec Ω := conSpecL [.g cfgK] F34
theorem good34 {c : Cf} (h : chkC c = 0) : sxFn E34 A34 C34 [.agg (encC c)] [] KS = some (.tup [.ptr 7 0, I 0], [.cells 24 (encC c), .dead, .dead, .rowi 22 .u64 (flC c), .dead, .dead, .rowi 22 .u64 (flC c), .cells 61 (memC c ac0 6)]) := by
  have h1 := flC_len h
  have h2 := szC_le h
  rw [← sxFnI_eq, n34, bang_f h, br_f, br_f]
  rw [show fl (sizeN (Int.toNat (Cf.a c)) (Int.toNat (Cf.b c)) (Int.toNat (Cf.c c)) (Int.toNat (Cf.d c)) (Int.toNat (Cf.e c))) (3 + Int.toNat (Cf.a c) + Int.toNat (Cf.b c)) (Int.toNat (Cf.e c)) (Int.toNat (Cf.e c)) = flC c from rfl]
  rw [bang_f h1, br_f, fits_of (by omega), br_t]
theorem bad34 {c : Cf} (h : ¬ chkC c = 0) : sxFn E34 A34 C34 [.agg (encC c)] [] KS = some (.tup [.d (.v (.pointer none)), I (chkC c)], [.cells 24 (encC c)]) := by
  rw [← sxFnI_eq, n34, bang_t h, br_t, br_t, br_t]
theorem g34c : Good1 Try.prog 13 S34c := conGoodL Try.func13 (by kernel_rfl) c34 e34 mix (A := A34) fun L r hr hl hF => by
  obtain ⟨q0, l0, rfl, z0, hl1⟩ := lenAs_cons hl
  obtain ⟨a, b, c, d, e, f, g, l, rfl⟩ := eight z0
  have hz := lenAs_nil hl1
  subst hz
  simp only [F34, NAlts, firstAlt] at hF
  by_cases h0 : chkC ⟨a, b, c, d, e, f, g, l⟩ = 0
  · rw [bang_f h0, cond_false, cond_true] at hF
    simp only [Option.some.injEq, Prod.mk.injEq] at hF
    obtain ⟨rfl, rfl⟩ := hF
    have hv := good34 h0
    generalize flC ⟨a, b, c, d, e, f, g, l⟩ = W at *
    refine ⟨⟨trivial, trivial, trivial⟩, ⟨trivial, trivial, trivial, trivial, trivial, trivial, trivial, ⟨trivial, trivial, trivial, trivial, trivial, trivial, trivial, trivial, trivial, trivial, trivial, trivial, trivial, trivial, trivial⟩, trivial⟩, [.dead, .dead, .dead, .dead, .dead, .dead, .rowi 22 .u64 W, .cells 61 (memC ⟨a, b, c, d, e, f, g, l⟩ ac0 6)], [.cells 24 (encC ⟨a, b, c, d, e, f, g, l⟩), .dead, .dead, .rowi 22 .u64 W, .dead, .dead, .rowi 22 .u64 W, .cells 61 (memC ⟨a, b, c, d, e, f, g, l⟩ ac0 6)], RowEq.refl _, ?_, hv⟩
    kernel_rfl
  · rw [bang_t h0, cond_true] at hF
    simp only [Option.some.injEq, Prod.mk.injEq] at hF
    obtain ⟨rfl, rfl⟩ := hF
    have hv := bad34 h0
    exact ⟨⟨trivial, trivial, trivial⟩, trivial, [], [.cells 24 (encC ⟨a, b, c, d, e, f, g, l⟩)], RowEq.refl _, trim_none rfl _, hv⟩
end Go.Sx.Pr

namespace Go.Sx.Pr
open Go Go.Sx Go.Proofs
set_option maxRecDepth 100000
def K1074_1 : CC := .seq (.reg false [⟨some 6, .fa 17 (.t 1), none, 0⟩,
   ⟨some 7, .ld 1 false (.t 6), none, 0⟩,
   ⟨some 8, .len (.t 7), none, 0⟩,
   ⟨some 4, .mv (.t 8), none, 0⟩])
 (.seq (.seq (.reg false [⟨some 9, .mv (.t 4), none, 0⟩,
   ⟨some 10, .eq .int false (.t 9) (.c (.d (.v (.int .i64 0)))), none, 0⟩])
 (.cond 10 (.seq (.reg false [⟨some 11, .ld 33 true (.t 1), none, 0⟩,
     ⟨none, .st 33 (.t 2) (.t 11), none, 0⟩,
     ⟨some 3, .mv (.c (.d (.v (.int .i64 (-1))))), none, 0⟩])
   (.ret))
   (.skip)))
 (.seq (.reg false [⟨some 12, .fa 17 (.t 1), none, 0⟩,
   ⟨some 13, .ld 1 false (.t 12), none, 0⟩,
   ⟨some 14, .ixs 1 (.t 13) (.c (.d (.v (.int .i64 0)))), none, 0⟩,
   ⟨some 15, .ld 1 false (.t 14), none, 0⟩,
   ⟨some 5, .mv (.t 15), none, 0⟩])
 (.seq (.reg false [⟨some 16, .fa 17 (.t 1), none, 0⟩,
   ⟨some 17, .ld 1 false (.t 16), none, 0⟩,
   ⟨some 18, .mv (.t 4), none, 0⟩,
   ⟨some 19, .mv (.t 4), none, 0⟩,
   ⟨some 20, .slc 1 (.t 17) (some (.c (.d (.v (.int .i64 1))))) (some (.t 18)) (some (.t 19)), none, 0⟩,
   ⟨some 21, .fa 17 (.t 1), none, 0⟩,
   ⟨none, .st 1 (.t 21) (.t 20), none, 0⟩])
 (.seq (.reg false [⟨some 22, .ld 33 true (.t 1), none, 0⟩,
   ⟨some 23, .mv (.t 5), none, 0⟩,
   ⟨none, .st 33 (.t 2) (.t 22), none, 0⟩,
   ⟨some 3, .mv (.t 23), none, 0⟩])
 (.ret)))))
def K1074_2 : CC := .reg false [⟨some 1, .box 43 33 (.t 0), none, 0⟩,
   ⟨some 2, .newc 43 [.d (.v (.int .i64 0)), .d (.v (.int .i64 0)), .d (.v (.int .u64 0)), .d (.v (.int .u64 0)), .d (.v (.int .i64 0)), .d (.v (.bool false)), .d (.v (.int .i64 0)), .d (.v (.int .i64 0)), .d (.v (.bool false)), .d (.v (.int .u64 0)), .d (.v (.slice none 0 0)), .d (.v (.int .u64 0)), .d (.v (.slice none 0 0)), .d (.v (.int .u64 0)), .d (.v (.slice none 0 0)), .d (.v (.int .u64 0)), .d (.v (.slice none 0 0)), .d (.v (.slice none 0 0)), .d (.v (.int .i64 0)), .d (.v (.int .i64 0)), .d (.v (.int .i64 0)), .d (.v (.int .i64 0)), .d (.v (.int .i64 0)), .d (.v (.int .u64 0)), .d (.v (.int .u64 0)), .d (.v (.int .u64 0)), .d (.v (.int .u64 0)), .d (.v (.int .u64 0)), .d (.v (.int .i64 0)), .d (.v (.slice none 0 0)), .d (.v (.int .u64 0)), .d (.v (.int .i64 0)), .d (.v (.bool false))], none, 0⟩,
   ⟨some 3, .mv (.c (.d (.v (.int .i64 0)))), none, 0⟩]
/-- coatcheck/rack.Next -/
def C1074 : CF := ⟨1, [(2, some (33, true)), (3, none)],
 .seq K1074_2 K1074_1⟩
theorem c1074 : coF Try.prog Try.f23 = some C1074 := by kernel_rfl
def A1074 : Ann := { keep := [0, 1, 2, 3, 4, 5, 10], live := [] }
def E1074 {Ω : Type} : Env Ω := enil
theorem e1074 : GoodE Try.prog E1074 := GoodE.nil
def S1074 {Ω : Type} : Spec Ω := inl E1074 A1074 C1074 false
theorem g1074 : Good1 Try.prog 23 S1074 := Good1.inl e1074 mix Try.func23 (by kernel_rfl) c1074 A1074 false
def K1038_1 : CC := .seq (.seq (.reg false [⟨some 5, .fa 17 (.t 1), none, 0⟩,
   ⟨some 6, .ld 1 false (.t 5), none, 0⟩,
   ⟨some 7, .len (.t 6), none, 0⟩,
   ⟨some 8, .eq .int false (.t 7) (.c (.d (.v (.int .i64 0)))), none, 0⟩])
 (.cond 8 (.seq (.reg false [⟨some 9, .fa 0 (.t 1), none, 0⟩,
     ⟨none, .st 1 (.t 9) (.c (.d (.v (.int .i64 0)))), none, 0⟩])
   (.seq (.reg false [⟨some 10, .ld 33 true (.t 1), none, 0⟩,
     ⟨none, .st 33 (.t 2) (.t 10), none, 0⟩,
     ⟨some 3, .mv (.c (.d (.v (.int .i64 1)))), none, 0⟩])
   (.ret)))
   (.skip)))
 (.seq (.reg false [⟨some 12, .ld 33 true (.t 1), none, 0⟩,
   ⟨some 13, .call (.c (.fn (.func 23) [] [])) [.t 12], none, 0⟩,
   ⟨some 11, .mv (.t 13), none, 0⟩,
   ⟨some 14, .ext 0 (.t 11), none, 0⟩,
   ⟨some 15, .ext 1 (.t 11), none, 0⟩,
   ⟨none, .st 33 (.t 1) (.t 14), none, 0⟩,
   ⟨some 4, .mv (.t 15), none, 0⟩])
 (.seq (.reg false [⟨some 16, .mv (.t 4), none, 0⟩,
   ⟨some 17, .bin .add (.t 16) (.c (.d (.v (.int .i64 1)))), none, 0⟩,
   ⟨some 18, .fa 19 (.t 1), none, 0⟩,
   ⟨none, .st 1 (.t 18) (.t 17), none, 0⟩,
   ⟨some 19, .fa 0 (.t 1), none, 0⟩,
   ⟨none, .st 1 (.t 19) (.c (.d (.v (.int .i64 39)))), none, 0⟩])
 (.seq (.reg false [⟨some 20, .ld 33 true (.t 1), none, 0⟩,
   ⟨none, .st 33 (.t 2) (.t 20), none, 0⟩,
   ⟨some 3, .mv (.c (.d (.v (.int .i64 0)))), none, 0⟩])
 (.ret))))
def K1038_2 : CC := .reg false [⟨some 1, .box 43 33 (.t 0), none, 0⟩,
   ⟨some 2, .newc 43 [.d (.v (.int .i64 0)), .d (.v (.int .i64 0)), .d (.v (.int .u64 0)), .d (.v (.int .u64 0)), .d (.v (.int .i64 0)), .d (.v (.bool false)), .d (.v (.int .i64 0)), .d (.v (.int .i64 0)), .d (.v (.bool false)), .d (.v (.int .u64 0)), .d (.v (.slice none 0 0)), .d (.v (.int .u64 0)), .d (.v (.slice none 0 0)), .d (.v (.int .u64 0)), .d (.v (.slice none 0 0)), .d (.v (.int .u64 0)), .d (.v (.slice none 0 0)), .d (.v (.slice none 0 0)), .d (.v (.int .i64 0)), .d (.v (.int .i64 0)), .d (.v (.int .i64 0)), .d (.v (.int .i64 0)), .d (.v (.int .i64 0)), .d (.v (.int .u64 0)), .d (.v (.int .u64 0)), .d (.v (.int .u64 0)), .d (.v (.int .u64 0)), .d (.v (.int .u64 0)), .d (.v (.int .i64 0)), .d (.v (.slice none 0 0)), .d (.v (.int .u64 0)), .d (.v (.int .i64 0)), .d (.v (.bool false))], none, 0⟩,
   ⟨some 3, .mv (.c (.d (.v (.int .i64 0)))), none, 0⟩]
/-- coatcheck/give.Begin -/
def C1038 : CF := ⟨1, [(2, some (33, true)), (3, none)],
 .seq K1038_2 K1038_1⟩
theorem c1038 : coF Try.prog Try.f8 = some C1038 := by kernel_rfl
def A1038 : Ann := { keep := [0, 1, 2, 3, 4, 8], live := [] }
def E1038 {Ω : Type} : Env Ω := econs 23 S1074 (enil)
theorem e1038 : GoodE Try.prog E1038 := GoodE.cons g1074 (GoodE.nil)
/-- slices.Clone[[]int,int] -/
def C1076 : CF := ⟨1, [(2, none)],
 .seq (.reg false [⟨some 2, .mv (.c (.d (.v (.slice none 0 0)))), none, 0⟩])
 (.seq (.seq (.reg false [⟨some 3, .mv (.t 0), none, 0⟩,
   ⟨some 4, .eq .slc false (.t 3) (.c (.d (.v (.slice none 0 0)))), none, 0⟩])
 (.cond 4 (.seq (.reg false [⟨some 2, .mv (.c (.d (.v (.slice none 0 0)))), none, 0⟩])
   (.ret))
   (.skip)))
 (.seq (.reg false [⟨some 5, .bsl 3 1 0 [.d (.v (.int .i64 0))] [], none, 0⟩,
   ⟨some 6, .mv (.t 0), none, 0⟩,
   ⟨some 7, .app 3 1 8 (some .i64) (.t 5) (.t 6), none, 0⟩,
   ⟨some 2, .mv (.t 7), none, 0⟩])
 (.ret)))⟩
theorem c1076 : coF Try.prog Try.f28 = some C1076 := by kernel_rfl
def A1076 : Ann := { keep := [0, 2, 4], live := [] }
def E1076 {Ω : Type} : Env Ω := enil
theorem e1076 : GoodE Try.prog E1076 := GoodE.nil
/-- coatcheck/rack.Put -/
def C1075 : CF := ⟨3, [(6, some (33, true)), (7, none)],
 .seq (.reg false [⟨some 3, .box 24 8 (.t 0), none, 0⟩,
   ⟨some 4, .box 43 33 (.t 1), none, 0⟩,
   ⟨some 6, .newc 43 [.d (.v (.int .i64 0)), .d (.v (.int .i64 0)), .d (.v (.int .u64 0)), .d (.v (.int .u64 0)), .d (.v (.int .i64 0)), .d (.v (.bool false)), .d (.v (.int .i64 0)), .d (.v (.int .i64 0)), .d (.v (.bool false)), .d (.v (.int .u64 0)), .d (.v (.slice none 0 0)), .d (.v (.int .u64 0)), .d (.v (.slice none 0 0)), .d (.v (.int .u64 0)), .d (.v (.slice none 0 0)), .d (.v (.int .u64 0)), .d (.v (.slice none 0 0)), .d (.v (.slice none 0 0)), .d (.v (.int .i64 0)), .d (.v (.int .i64 0)), .d (.v (.int .i64 0)), .d (.v (.int .i64 0)), .d (.v (.int .i64 0)), .d (.v (.int .u64 0)), .d (.v (.int .u64 0)), .d (.v (.int .u64 0)), .d (.v (.int .u64 0)), .d (.v (.int .u64 0)), .d (.v (.int .i64 0)), .d (.v (.slice none 0 0)), .d (.v (.int .u64 0)), .d (.v (.int .i64 0)), .d (.v (.bool false))], none, 0⟩,
   ⟨some 7, .mv (.c (.d (.v (.bool false)))), none, 0⟩])
 (.seq (.seq (.reg false [⟨some 8, .fa 10 (.t 4), none, 0⟩,
   ⟨some 9, .ld 1 false (.t 8), none, 0⟩,
   ⟨some 10, .len (.t 9), none, 0⟩,
   ⟨some 11, .fa 5 (.t 3), none, 0⟩,
   ⟨some 12, .ld 1 false (.t 11), none, 0⟩,
   ⟨some 13, .bin .geq (.t 10) (.t 12), none, 0⟩])
 (.cond 13 (.seq (.reg false [⟨some 14, .ld 33 true (.t 4), none, 0⟩,
     ⟨none, .st 33 (.t 6) (.t 14), none, 0⟩,
     ⟨some 7, .mv (.c (.d (.v (.bool false)))), none, 0⟩])
   (.ret))
   (.skip)))
 (.seq (.reg false [⟨some 15, .fa 10 (.t 4), none, 0⟩,
   ⟨some 16, .ld 1 false (.t 15), none, 0⟩,
   ⟨some 17, .call (.c (.fn (.func 28) [] [])) [.t 16], none, 0⟩,
   ⟨some 18, .mv (.t 2), none, 0⟩,
   ⟨some 19, .bsl 3 1 1 [.d (.v (.int .i64 0))] [(0, 1, .t 18)], none, 0⟩,
   ⟨some 20, .app 3 1 8 (some .i64) (.t 17) (.t 19), none, 0⟩,
   ⟨some 21, .fa 10 (.t 4), none, 0⟩,
   ⟨none, .st 1 (.t 21) (.t 20), none, 0⟩])
 (.seq (.reg false [⟨some 22, .ld 33 true (.t 4), none, 0⟩,
   ⟨none, .st 33 (.t 6) (.t 22), none, 0⟩,
   ⟨some 7, .mv (.c (.d (.v (.bool true)))), none, 0⟩])
 (.ret))))⟩
theorem c1075 : coF Try.prog Try.f26 = some C1075 := by kernel_rfl
def A1075 : Ann := { keep := [0, 1, 2, 3, 4, 6, 7, 13], live := [] }
end Go.Sx.Pr

/- The contract of take.ways: a table of functions, as data. -/
namespace Go.Sx.Pr
open Go Go.Sx Go.Sx.Md Go.Proofs
set_option maxRecDepth 100000
theorem dat_of {P : Program} {e : {Ω : Type} → Env Ω} (he : GoodE P e) {A : Ann} {C : CF} {args : List SV} {y : SV} (hr : sxFn (e (Ω := SV)) A C args [] (fun r h => dat true h r) = some y) :
    ∃ r0 y' H, sxFn (e (Ω := SV × SH)) A C args [] (fun r h => some (r, h)) = some (r0, H) ∧ dat true H r0 = some y' ∧ ∀ cx w u, SRep cx w y' u → SRep cx w y u := by
  obtain ⟨r', h', k1, k2⟩ := sxFn_par (he.par _ (SV × SH)) hr
  exact ⟨r', y, h', k2 _, k1, fun _ _ _ q => q⟩
end Go.Sx.Pr
