/- slices.Sort on a row of our own: a contract by hand. -/
import Derived.Test.YtppkbofmgjkboaaG2
import Derived.Test.YtppkbofmgjkboaaG2
import Derived.Test.YtppkbofmgjkboaaSxMem
import Derived.Test.YtppkbofmgjkboaaG2
import Derived.Test.YtppkbofmgjkboaaSxMem
import Derived.Test.YtppkbofmgjkboaaG2
import Derived.Test.YtppkbofmgjkboaaG2
import Derived.Test.YtppkbofmgjkboaaG2
import Derived.Test.YtppkbofmgjkboaaN7
import Derived.Test.YtppkbofmgjkboaaSxMem
import Derived.Test.YtppkbofmgjkboaaRows
import Derived.KernelRfl
set_option linter.all false
set_option linter.unusedVariables false
set_option linter.unusedSimpArgs false
set_option linter.unnecessarySimpa false
namespace Go.Sx.Pr
open Go Go.Sx Go.Sx.Md Go.Proofs
set_option maxRecDepth 100000

/-- A row of our own whose cells are overwritten, while memory grows. -/
theorem put_sorted {cx : Cx} {h : SH} {w w' : World} {l : Nat} {t : TypeId} {xs ys : List Int} {os : Array Obj} {q : Nat} (hgt : hget h l = .rowi t .i64 xs) (hg : Gam cx h w) (hlh : l < h.length)
    (hq : cx.nl l = false) (hz : ys.length = xs.length)
    (e2 : w' = Go.Sort.grow (Go.Sort.putRow (Value.int .i64) (Go.Sort.ahead w q) (cx.th l) 0 ys.toArray) os) :
    Grow0 cx w cx w' ∧ Gam cx (h.set l (.rowi t .i64 ys)) w' := by
  have hO := hg.obj l
  rw [hgt] at hO
  obtain ⟨h1, h2, h3, h4, h5⟩ := hO
  obtain ⟨t', c', hb1, hb2, hb3⟩ := h5 hq
  have hlive : liv cx h l := by simp [liv, hgt, hq]
  have hlt := hg.lt l hlive
  obtain ⟨w1, hw1⟩ : ∃ w1, w1 = Go.Sort.putRow (Value.int .i64) (Go.Sort.ahead w q) (cx.th l) 0 ys.toArray := ⟨_, rfl⟩
  have hh1 : w1.heap = w.heap.modify (cx.th l) (Go.Sort.onCells (Go.Sort.putCells (Value.int .i64) 0 ys.toArray)) := by rw [hw1]; rfl
  have hs1 : w1.heap.size = w.heap.size := by rw [hh1]; simp
  have hot : ∀ b : Nat, b ≠ cx.th l → w1.heap[b]? = w.heap[b]? := fun b hne => by rw [hh1]; simp [Array.getElem?_modify, Ne.symm hne]
  have hblk : w1.heap[cx.th l]? = some (.cells (Go.Sort.putCells (Value.int .i64) 0 ys.toArray c') t' (0, 0)) := by rw [hh1]; simp [Array.getElem?_modify, hb1, Go.Sort.onCells]
  have hio1 : Io w w1 := ⟨by rw [hw1]; rfl, by rw [hw1]; rfl, fun a _ => by rw [hw1, Go.Sort.frozen?_putRow]; rfl, by omega⟩
  have hlv : liv cx (h.set l (.rowi t .i64 ys)) l := by simp [liv, hget_set_eq hlh, hq]
  obtain ⟨g1, gr1⟩ := Gam.write hg hlive (.rowi t .i64 ys) (.inl hlv) hs1 hot
    (by
      simp only [ORep]
      refine ⟨by rw [h1, hz], h2, by omega, h4, fun _ => ⟨t', _, hblk, by simp [Go.Sort.putCells, hb2], fun i hi => ?_⟩⟩
      have hic : i < c'.size := by omega
      simp only [Go.Sort.putCells, Array.getElem?_mapIdx, Array.getElem?_eq_getElem hic, Option.map_some]
      rw [if_pos ⟨by omega, by simpa using hi⟩, getElem!_pos ys.toArray _ (by simpa using hi)]
      simp [List.getD_eq_getElem?_getD, hi]) hio1
  have hsame : ∀ b, b < w1.heap.size → w'.heap[b]? = w1.heap[b]? := fun b hb => by
    rw [e2, ← hw1]
    simp only [Go.Sort.grow]
    rw [Array.getElem?_append_left hb]
  have hsz : w1.heap.size ≤ w'.heap.size := by rw [e2, ← hw1]; simp [Go.Sort.grow]
  have hio : Io w1 w' := ⟨by rw [e2, ← hw1]; rfl, by rw [e2, ← hw1]; rfl, fun a ha => by simp only [World.frozen?]; rw [hsame _ ha], hsz⟩
  obtain ⟨g2, gr2⟩ := Gam.later g1 hsame hsz hio
  exact ⟨gr1.trans gr2, g2⟩

def sorted (xs : List Int) : List Int := xs.mergeSort fun x y => decide (x ≤ y)
def S1079s {Ω : Type} : Spec Ω := fun args h k => match args with
  | [.own l] => match hget h l with
    | .rowi t .i64 xs => br (decide (xs.length < 4611686018427387904)) (k (.tup []) [l] [] (h.set l (.rowi t .i64 (sorted xs)))) none
    | _ => none
  | [.d (.v (.slice none 0 0))] => k (.tup []) [] [] h
  | _ => none

theorem set_same {h : SH} {l : Nat} {o : SO} (hlh : l < h.length) (e : hget h l = o) : h.set l o = h := by
  rw [← e]
  unfold hget
  apply List.ext_getElem?
  intro i
  rw [List.getElem?_set]
  split
  · rename_i e; subst e
    simp [hlh, List.getD_eq_getElem?_getD]
  · rfl

theorem sort_own {cx : Cx} {h : SH} {w : World} {l : Nat} {t : TypeId} {xs : List Int} (hgt : hget h l = .rowi t .i64 xs) (hb : xs.length < 4611686018427387904)
    (hg : Gam cx h w) {u : Value} (hu : SRep cx w (.own l) u) :
    Calls Try.prog 61 #[u] w fun e w' => e = .returned (.tuple #[]) ∧ Grow0 cx w cx w' ∧ Gam cx (h.set l (.rowi t .i64 (sorted xs))) w' := by
  simp only [SRep] at hu
  obtain ⟨hln, rfl⟩ := hu
  have hO := hg.obj l
  have hlh : l < h.length := hg.n ▸ hln
  rw [hgt] at hO
  obtain ⟨h1, h2, h3, h4, h5⟩ := hO
  have hsl : (sorted xs).length = xs.length := by simp [sorted]
  cases xs with
  | nil =>
    have e0 : sorted [] = [] := List.length_eq_zero_iff.1 hsl
    rw [e0, set_same hlh hgt]
    simp only [List.length_nil] at h1
    rw [h1]
    refine (Try.slices_Sort_int_none _ (cx.cp l) w).mono fun e w' ⟨e1, e2⟩ => ?_
    subst e2
    exact ⟨e1, Grow.refl _ _ _, hg⟩
  | cons x r =>
    generalize hxs : x :: r = xs at *
    have hpos : 0 < xs.length := by rw [← hxs]; simp
    have hq : cx.nl l = false := by
      cases hq : cx.nl l with
      | false => rfl
      | true => have := h4 hq; omega
    obtain ⟨t', c', hb1, hb2, hb3⟩ := h5 hq
    rw [hq, h1]
    have hlive : liv cx h l := by simp [liv, hgt, hq]
    refine (Try.slices_Sort_int (cx.th l) 0 (cx.cp l) xs w (fun j hj => ?_) (hg.lt l hlive) hb).mono fun e w' ⟨e1, q, os, e2⟩ => ?_
    · have hj' : j < xs.length := by simpa using hj
      refine ⟨?_, ?_⟩
      · simp only [World.cell?, hb1, Nat.zero_add, Option.isSome_none, Bool.false_eq_true, if_false]
        have := hb3 j hj'
        simp only [getElem!_pos xs.toArray j hj]
        simpa [List.getD_eq_getElem?_getD, hj'] using this
      · simp [World.frozen?, hb1]
    · obtain ⟨a1, a2⟩ := put_sorted hgt hg hlh hq hsl e2
      exact ⟨e1, a1, a2⟩

theorem g1079s : Good1 Try.prog 61 S1079s := by
  refine ⟨fun Ω => ⟨enter_of Try.func61 (by kernel_rfl) (by kernel_rfl), fun args h k out hs => ?_⟩, fun Ω Ω' => ?_⟩
  · unfold S1079s at hs
    split at hs
    · rename_i l
      split at hs
      · rename_i t xs hgt
        rcases br_some hs with ⟨hb, hs2⟩ | ⟨hb, hs2⟩
        · simp only [decide_eq_true_eq] at hb
          refine ⟨_, _, _, _, hs2, ⟨by simp, fun m _ hm => ?_⟩, fun cx w vals hg ha => ?_⟩
          · refine hget_set_ne fun e => ?_
            subst e
            simp [nmem] at hm
          · match vals, ha with
            | [u], ha =>
              simp only [SRepL, and_true] at ha
              refine (sort_own hgt hb hg ha).mono fun e w' ⟨q1, q2, q3⟩ => ⟨_, cx, q1, q2.to, ?_, q3⟩
              simp only [SRep]; exact ⟨[], rfl, by simp [SRepL]⟩
            | [], ha => simp [SRepL] at ha
            | _ :: _ :: _, ha => simp [SRepL] at ha
        · cases hs2
      · cases hs
    · refine ⟨_, _, _, _, hs, Keeps.refl _ _, fun cx w vals hg ha => ?_⟩
      match vals, ha with
      | [u], ha =>
        simp only [SRepL, SRep, DRep, and_true] at ha
        obtain ⟨rfl, _⟩ := ha
        refine (Try.slices_Sort_int_none none 0 w).mono fun e w' ⟨e1, e2⟩ => ?_
        subst e2
        refine ⟨_, cx, e1, Grow.refl _ _ _, ?_, hg⟩
        simp only [SRep]; exact ⟨[], rfl, by simp [SRepL]⟩
      | [], ha => simp [SRepL] at ha
      | _ :: _ :: _, ha => simp [SRepL] at ha
    · cases hs
  · intro args h k out hs
    unfold S1079s at hs ⊢
    split at hs
    · rename_i l
      split at hs
      · rename_i t xs hgt
        rcases br_some hs with ⟨hb, hs⟩ | ⟨hb, hs⟩
        · exact ⟨_, _, _, _, hs, fun k' => by simp only [hgt, hb, br, cond_true]⟩
        · cases hs
      · cases hs
    · exact ⟨_, _, _, _, hs, fun k' => rfl⟩
    · cases hs
end Go.Sx.Pr

/- slices.Compact on a row of our own, or on no row. -/
namespace Go.Sx.Pr
open Go Go.Sx Go.Sx.Md Go.Proofs
set_option maxRecDepth 100000
def S1080n {Ω : Type} : Spec Ω := fun args h k => match args with
  | [.own l] => match hget h l with
    | .rowi t .i64 xs => br (decide (xs.length ≤ 9223372036854775807) && !mentH (Nat.beq l) h) (k (.own l) [l] [l] (h.set l (.rowi t .i64 (Lib.compact xs)))) none
    | _ => none
  | [.d (.v (.slice none 0 0))] => k (.d (.v (.slice none 0 0))) [] [] h
  | _ => none
theorem g1080n : Good1 Try.prog 62 S1080n := by
  refine ⟨fun Ω => ⟨enter_of Try.func62 (by kernel_rfl) (by kernel_rfl), fun args h k out hs => ?_⟩, fun Ω Ω' => ?_⟩
  · unfold S1080n at hs
    split at hs
    · rename_i l
      split at hs
      · rename_i t xs hgt
        rcases br_some hs with ⟨hb, hs2⟩ | ⟨hb, hs2⟩
        · simp only [Bool.and_eq_true, decide_eq_true_eq, Bool.not_eq_true'] at hb
          refine ⟨_, _, _, _, hs2, ⟨by simp, fun m _ hm => ?_⟩, fun cx w vals hg ha => ?_⟩
          · refine hget_set_ne fun e => ?_
            subst e
            simp [nmem] at hm
          · match vals, ha with
            | [u], ha =>
              simp only [SRepL, and_true] at ha
              refine (compact_own hgt hb.1 hb.2 hg ha).mono fun e w' ⟨v, cx', q1, q2, q3, q4⟩ => ⟨v, cx', q1, q2.weak fun m hm => ?_, q3, q4⟩
              simpa [nmem] using hm
            | [], ha => simp [SRepL] at ha
            | _ :: _ :: _, ha => simp [SRepL] at ha
        · cases hs2
      · cases hs
    · refine ⟨_, _, _, _, hs, Keeps.refl _ _, fun cx w vals hg ha => ?_⟩
      match vals, ha with
      | [u], ha =>
        have hu := ha
        simp only [SRepL, SRep, DRep, and_true] at ha
        obtain ⟨rfl, hc⟩ := ha
        refine (Try.slices_Compact_int_empty none 0 w).mono fun e w' ⟨e1, e2⟩ => ?_
        subst e2
        refine ⟨_, cx, e1, Grow.refl _ _ _, ?_, hg⟩
        simp only [SRep, DRep]; exact ⟨trivial, hc⟩
      | [], ha => simp [SRepL] at ha
      | _ :: _ :: _, ha => simp [SRepL] at ha
    · cases hs
  · intro args h k out hs
    unfold S1080n at hs ⊢
    split at hs
    · rename_i l
      split at hs
      · rename_i t xs hgt
        rcases br_some hs with ⟨hb, hs⟩ | ⟨hb, hs⟩
        · exact ⟨_, _, _, _, hs, fun k' => by simp only [hgt, hb, br, cond_true]⟩
        · cases hs
      · cases hs
    · exact ⟨_, _, _, _, hs, fun k' => rfl⟩
    · cases hs
end Go.Sx.Pr

/- All's list as data. -/
namespace Go.Sx.Pr
open Go Go.Sx Go.Proofs
set_option maxRecDepth 100000
def FAllD : List (List Int) → List (Bool × Nat × Nat × (Nat → Nat → Value))
  | [[a, b, c, d, e, f, g, l]] => [(chk a b c d e f g l == 0, 3, sizeN a.toNat b.toNat c.toNat d.toNat e.toNat, fun i j => .int .i64 (spot a.toNat b.toNat d.toNat e.toNat i j))]
  | _ => []
def S20d {Ω : Type} : Spec Ω := conSpecD [.g cfgK] FAllD
theorem g20d : Good1 Try.prog 67 S20d := conGoodD Try.func67 (by kernel_rfl) c20 e20 mix (A := A20) fun L sz n f hl hF => by
  obtain ⟨x, rfl, hx⟩ := lenAs_one hl
  obtain ⟨a, b, c, d, e, ff, g, i, rfl⟩ := eight hx
  simp only [FAllD, firstD] at hF
  cases h : (chk a b c d e ff g i == 0) with
  | false => rw [h] at hF; cases hF
  | true =>
    rw [h] at hF
    simp only [cond_true, Option.some.injEq, Prod.mk.injEq] at hF
    obtain ⟨rfl, rfl, rfl⟩ := hF
    refine ⟨3, _, _, _, v20 _ (by simpa using h), rfl, fun i hi j hj => qAll_spot hi hj⟩
end Go.Sx.Pr

/- Rows of workers' states and of bools, as functions of their places. -/
namespace Go.Sx.Pr
open Go Go.Sx Go.Sx.Md
def rowW (a : Nat → Wk) : Nat → Nat → DV := fun i j => lkD ((encW (a i)).map dv) j
end Go.Sx.Pr

/- A list of workers' states, and an event, as arguments of a law. -/
namespace Go.Sx.Pr
open Go Go.Sx Go.Sx.Md Go.Proofs Go.ChangeShapes Go.WideShapes Go.ChangeAt Go.RowKit
set_option maxRecDepth 100000
theorem sl_ext {fz : Nat → Prop} {w : World} {sz n : Nat} {f g : Nat → Nat → DV} {u : Value} (h : DRep fz w (.sl sz n f) u) (hx : ∀ i, i < n → ∀ j, j < sz → g i j = f i j) : DRep fz w (.sl sz n g) u := by
  simp only [DRep] at h ⊢
  obtain ⟨a, c, rfl, h1, h2⟩ := h
  refine ⟨a, c, rfl, h1, fun hn => ?_⟩
  obtain ⟨b, o, e, hf, h3⟩ := h2 hn
  refine ⟨b, o, e, hf, fun i hi j hj => ?_⟩
  rw [hx i hi j hj]
  exact h3 i hi j hj
theorem suppWs (n : Nat) : suppT Try.prog (n + 7) 37 = true := by kernel_rfl
theorem undWs : Try.prog.underlying 37 = some (.slice 60) := by kernel_rfl
theorem cellsW : Try.prog.cellsOf 60 = 33 := by kernel_rfl
theorem undW : ∃ fs, Try.prog.underlying 60 = some (.struct fs) := ⟨_, Try.underlying60⟩
theorem works_arg {H : Type} {enc : TypeId × Value → H} {w : World} {v : Value} {d : DataW H} {p : List MemPlace} {r : Reach} {base : Nat} (hv : Value.okWide Try.prog w r base 37 v) (h : DataW.Trod enc Try.prog w 0 (fun _ => true) true 37 v d p) :
    ∃ (n : Nat) (a : Nat → Wk), (∀ i, i < n → okW (a i) = true) ∧ SRep (cx0 w) w (.d (.sl 33 n (rowW a))) v := by
  obtain ⟨k, L, hW, hR⟩ := arg_rep (kids_rows laid rowed) slicesFull (t := 37) (tlt (by omega)) (m := 7) suppWs h
  obtain ⟨fs, hfs⟩ := undW
  rw [show k + 7 = (k + 6) + 1 from rfl] at hW
  unfold Wt at hW
  rw [undWs] at hW
  dsimp only at hW
  rw [hfs] at hW
  dsimp only at hW
  obtain ⟨n, f, rfl, _, hi⟩ := hW
  rw [cellsW] at hi hR
  have key : ∀ i, ∃ x : Wk, i < n → okW x = true ∧ ∀ j, j < 33 → rowW (fun _ => x) i j = f i j := fun i => by
    by_cases hn : i < n
    · have ht := flatT_typ (n := 6) (m := k) flatW (hi i hn)
      have e := typ_cells (l := (List.range 33).map (f i)) (iv := fun j => getI (((List.range 33).map (f i)).getD j (.v undef))) (bv := fun j => getB (((List.range 33).map (f i)).getD j (.v undef))) (sv := fun j => getS (((List.range 33).map (f i)).getD j (.v undef))) (j := 0) ht
        (fun i _ => by simp) (fun i _ => by simp) (fun i _ => by simp)
      generalize hI : (fun j => getI (((List.range 33).map (f i)).getD j (.v undef))) = iv at e
      generalize hB : (fun j => getB (((List.range 33).map (f i)).getD j (.v undef))) = bv at e
      generalize hS : (fun j => getS (((List.range 33).map (f i)).getD j (.v undef))) = sv at e
      refine ⟨ofF iv bv sv, fun _ => ⟨?_, fun j hj => ?_⟩⟩
      · rw [e] at ht
        have h1 := typ_wf ht
        simp only [ctsW, wfC] at h1
        obtain ⟨_, _, a2, a3, _, _, _, a9, _, a11, _, a13, _, a15, _, _, _, _, _, _, _, a23, a24, a25, a26, a27, _, _, a30, _, _⟩ := h1
        simp only [okW, ofF, uB_wf a2, uB_wf a3, uB_wf a9, uB_wf a11, uB_wf a13, uB_wf a15, uB_wf a23, uB_wf a24, uB_wf a25, uB_wf a26, uB_wf a27, uB_wf a30, Bool.and_self]
      · have e2 : (encW (ofF iv bv sv)).map dv = cellsD ctsW 0 iv bv sv := rfl
        show lkD ((encW (ofF iv bv sv)).map dv) j = f i j
        rw [e2, ← e]
        simp [lkD, List.getD_eq_getElem?_getD, hj]
    · exact ⟨ofF (fun _ => 0) (fun _ => false) (fun _ => []), fun q => absurd q hn⟩
  refine ⟨n, fun i => (key i).choose, fun i hi => ((key i).choose_spec hi).1, ?_⟩
  have h0 : DRep (cx0 w).fz w (.sl 33 n f) v := cell_rep hR fun c e => by
    subst e
    simp only [Value.okWide, undWs] at hv
    exact cell_not_agg hv ⟨_, undWs, .inr (.inr (.inr ⟨_, rfl⟩))⟩
  simp only [SRep]
  exact sl_ext h0 fun i hi j hj => ((key i).choose_spec hi).2 j hj

/-- An event's cells. -/
structure Ev5 where
  (tick who n kind ok oT oX os by_ nth T ret line ak aa ax ay ao : Int)
  ou : Bool
  read : List Int
def encV (e : Ev5) : List SV := [I e.tick, I e.who, I e.n, I e.kind, I e.ok, U e.oT, U e.oX, I e.os, B e.ou, I e.by_, I e.nth, U e.T, I e.ret, .d (.ints .u64 e.read), I e.line, I e.ak, I e.aa, U e.ax, U e.ay, U e.ao]
def ctsV : List CT := [.i .i64, .i .i64, .i .i64, .i .i64, .i .i64, .i .u64, .i .u64, .i .i64, .b, .i .i64, .i .i64, .i .u64, .i .i64, .s .u64, .i .i64, .i .i64, .i .i64, .i .u64, .i .u64, .i .u64]
theorem flatV : flatT Try.prog 6 54 = some ctsV := by kernel_rfl
theorem suppV (n : Nat) : suppT Try.prog (n + 6) 54 = true := by kernel_rfl
theorem event_arg {H : Type} {enc : TypeId × Value → H} {w : World} {v : Value} {d : DataW H} {p : List MemPlace} (h : DataW.Trod enc Try.prog w 0 (fun _ => true) true 54 v d p) : ∃ e : Ev5, SRep (cx0 w) w (.agg (encV e)) v := by
  obtain ⟨n, L, hW, hR⟩ := arg_rep (kids_rows laid rowed) slicesFull (t := 54) (tlt (by omega)) (m := 6) suppV h
  obtain ⟨iv, bv, sv, h1, h2⟩ := agg_arg (cx := cx0 w) (n := 6) (m := n) flatV (by decide) hW hR
  exact ⟨⟨iv 0, iv 1, iv 2, iv 3, iv 4, iv 5, iv 6, iv 7, iv 9, iv 10, iv 11, iv 12, iv 14, iv 15, iv 16, iv 17, iv 18, iv 19, bv 8, sv 13⟩, h2⟩
end Go.Sx.Pr

namespace Go.Sx.Pr
open Go Go.Sx Go.Proofs
set_option maxRecDepth 100000
/-- coatcheck/coatcheckref18.sees -/
def C1081 : CF := ⟨2, [(4, none)],
 .seq (.reg false [⟨some 2, .box 60 33 (.t 0), none, 0⟩,
   ⟨some 4, .mv (.c (.d (.v (.bool false)))), none, 0⟩])
 (.seq (.reg false [⟨some 5, .fa 0 (.t 2), none, 0⟩,
   ⟨some 6, .ld 1 false (.t 5), none, 0⟩,
   ⟨some 7, .eq .int false (.t 6) (.c (.d (.v (.int .i64 61)))), none, 0⟩,
   ⟨some 8, .mv (.t 7), none, 0⟩,
   ⟨some 9, .fa 21 (.t 2), some (8, true), 0⟩,
   ⟨some 10, .ld 1 false (.t 9), some (8, true), 0⟩,
   ⟨some 11, .mv (.t 1), some (8, true), 0⟩,
   ⟨some 12, .bin .add (.t 11) (.c (.d (.v (.int .i64 1)))), some (8, true), 0⟩,
   ⟨some 13, .eq .int false (.t 10) (.t 12), some (8, true), 0⟩,
   ⟨some 14, .pick (.t 8) (.t 13) (.c (.d (.v (.bool false)))), none, 0⟩,
   ⟨some 15, .mv (.t 14), none, 0⟩,
   ⟨some 16, .fa 8 (.t 2), some (15, false), 0⟩,
   ⟨some 17, .ld 1 false (.t 16), some (15, false), 0⟩,
   ⟨some 18, .mv (.t 17), some (15, false), 0⟩,
   ⟨some 19, .fa 22 (.t 2), some (18, true), 0⟩,
   ⟨some 20, .ld 1 false (.t 19), some (18, true), 0⟩,
   ⟨some 21, .mv (.t 1), some (18, true), 0⟩,
   ⟨some 22, .bin .add (.t 21) (.c (.d (.v (.int .i64 1)))), some (18, true), 0⟩,
   ⟨some 23, .eq .int false (.t 20) (.t 22), some (18, true), 0⟩,
   ⟨some 24, .pick (.t 18) (.t 23) (.c (.d (.v (.bool false)))), some (15, false), 0⟩,
   ⟨some 25, .pick (.t 15) (.c (.d (.v (.bool true)))) (.t 24), none, 0⟩,
   ⟨some 4, .mv (.t 25), none, 0⟩])
 (.ret))⟩
theorem c1081 : coF Try.prog Try.f63 = some C1081 := by kernel_rfl
def A1081 : Ann := { keep := [0, 1, 2, 4], live := [] }
def E1081 {Ω : Type} : Env Ω := enil
theorem e1081 : GoodE Try.prog E1081 := GoodE.nil
def S1081 {Ω : Type} : Spec Ω := inl E1081 A1081 C1081 false
theorem g1081 : Good1 Try.prog 63 S1081 := Good1.inl e1081 mix Try.func63 (by kernel_rfl) c1081 A1081 false
def K1048_1 : CC := .seq (.reg false [⟨some 4, .mv (.c (.d (.v (.bool false)))), none, 0⟩])
 (.ret)
def L1048_2 : CC := .seq (.seq (.reg false [⟨some 6, .mv (.t 5), none, 0⟩,
   ⟨some 7, .mv (.t 0), none, 0⟩,
   ⟨some 8, .len (.t 7), none, 0⟩,
   ⟨some 9, .bin .lss (.t 6) (.t 8), none, 0⟩])
 (.cond 9 (.skip)
   (.exit 0)))
 (.seq (.block 1 (.seq (.reg false [⟨some 12, .mv (.t 0), none, 0⟩,
     ⟨some 13, .mv (.t 5), none, 0⟩,
     ⟨some 14, .ixs 33 (.t 12) (.t 13), none, 0⟩,
     ⟨some 15, .ld 33 true (.t 14), none, 0⟩,
     ⟨some 16, .mv (.t 1), none, 0⟩,
     ⟨some 17, .call (.c (.fn (.func 63) [] [])) [.t 15, .t 16], none, 0⟩])
   (.cond 17 (.seq (.reg false [⟨some 4, .mv (.c (.d (.v (.bool true)))), none, 0⟩])
     (.ret))
     (.skip))))
 (.reg false [⟨some 10, .mv (.t 5), none, 0⟩,
   ⟨some 11, .bin .add (.t 10) (.c (.d (.v (.int .i64 1)))), none, 0⟩,
   ⟨some 5, .mv (.t 11), none, 0⟩]))
def K1048_3 : CC := .reg false [⟨some 5, .mv (.c (.d (.v (.int .i64 0)))), none, 0⟩]
def K1048_4 : CC := .reg false [⟨some 4, .mv (.c (.d (.v (.bool false)))), none, 0⟩]
/-- coatcheck/coatcheckref18.Sees -/
def C1048 : CF := ⟨2, [(4, none)],
 .seq K1048_4 (.seq (.seq K1048_3 (.block 0 (.loop L1048_2))) K1048_1)⟩
theorem c1048 : coF Try.prog Try.f31 = some C1048 := by kernel_rfl
def A1048 : Ann := { keep := [0, 1, 4, 5, 9, 17], live := [(0, [0, 1, 5])] }
def E1048 {Ω : Type} : Env Ω := econs 63 S1081 (enil)
theorem e1048 : GoodE Try.prog E1048 := GoodE.cons g1081 (GoodE.nil)
def Z1048_2 {Ω : Type} (it : Itr Ω) (K : SV → SH → Option Ω) : SE → SS → Option Ω := kblk 0 (kseq it E1048 A1048 K1048_1 0 (kfn C1048 K))
/-- (coatcheck/plan.Plan).Word -/
def C1082 : CF := ⟨3, [(6, none)],
 .seq (.reg false [⟨some 3, .box 87 8 (.t 0), none, 0⟩,
   ⟨some 6, .mv (.c (.d (.v (.int .i64 0)))), none, 0⟩])
 (.seq (.seq (.reg false [⟨some 8, .ld 8 true (.t 3), none, 0⟩,
   ⟨some 9, .mv (.t 1), none, 0⟩,
   ⟨some 10, .call (.c (.fn (.func 90) [] [])) [.t 8, .t 9], none, 0⟩,
   ⟨some 7, .mv (.t 10), none, 0⟩])
 (.seq (.reg false [⟨some 11, .mv (.t 7), none, 0⟩,
   ⟨some 12, .bin .geq (.t 11) (.c (.d (.v (.int .i64 0)))), none, 0⟩,
   ⟨some 13, .mv (.t 12), none, 0⟩,
   ⟨some 14, .mv (.t 2), some (13, true), 0⟩,
   ⟨some 15, .bin .geq (.t 14) (.c (.d (.v (.int .i64 0)))), some (13, true), 0⟩,
   ⟨some 16, .pick (.t 13) (.t 15) (.c (.d (.v (.bool false)))), none, 0⟩,
   ⟨some 17, .mv (.t 16), none, 0⟩,
   ⟨some 18, .mv (.t 2), some (17, true), 0⟩,
   ⟨some 19, .fa 0 (.t 3), some (17, true), 0⟩,
   ⟨some 20, .fa 3 (.t 19), some (17, true), 0⟩,
   ⟨some 21, .ld 1 false (.t 20), some (17, true), 0⟩,
   ⟨some 22, .bin .lss (.t 18) (.t 21), some (17, true), 0⟩,
   ⟨some 23, .pick (.t 17) (.t 22) (.c (.d (.v (.bool false)))), none, 0⟩])
 (.cond 23 (.seq (.reg false [⟨some 24, .mv (.t 7), none, 0⟩,
     ⟨some 25, .bin .add (.t 24) (.c (.d (.v (.int .i64 1)))), none, 0⟩,
     ⟨some 26, .mv (.t 2), none, 0⟩,
     ⟨some 27, .bin .add (.t 25) (.t 26), none, 0⟩,
     ⟨some 6, .mv (.t 27), none, 0⟩])
   (.ret))
   (.skip))))
 (.seq (.reg false [⟨some 6, .mv (.c (.d (.v (.int .i64 (-1))))), none, 0⟩])
 (.ret)))⟩
theorem c1082 : coF Try.prog Try.f66 = some C1082 := by kernel_rfl
def A1082 : Ann := { keep := [0, 1, 2, 3, 6, 7, 23], live := [] }
def E1082 {Ω : Type} : Env Ω := econs 90 S117 (enil)
theorem e1082 : GoodE Try.prog E1082 := GoodE.cons g117 (GoodE.nil)
def S1082 {Ω : Type} : Spec Ω := inl E1082 A1082 C1082 false
theorem g1082 : Good1 Try.prog 66 S1082 := Good1.inl e1082 mix Try.func66 (by kernel_rfl) c1082 A1082 false
def K1049_1 : CC := .seq (.reg false [⟨some 4, .mv (.c (.d (.v (.int .i64 (-1))))), none, 0⟩,
   ⟨some 5, .mv (.c (.d (.v (.bool false)))), none, 0⟩])
 (.ret)
def L1049_2 : CC := .seq (.reg false [⟨some 28, .bin .lss (.t 27) (.t 26), none, 0⟩])
 (.seq (.cond 28 (.skip)
   (.exit 0))
 (.seq (.block 1 (.seq (.reg false [⟨some 29, .mv (.t 27), none, 0⟩,
     ⟨some 7, .mv (.t 29), none, 0⟩])
   (.seq (.reg false [⟨some 30, .ld 8 true (.t 6), none, 0⟩,
     ⟨some 31, .mv (.t 7), none, 0⟩,
     ⟨some 32, .call (.c (.fn (.func 66) [] [])) [.t 30, .t 31, .c (.d (.v (.int .i64 0)))], none, 0⟩,
     ⟨some 8, .mv (.t 32), none, 0⟩])
   (.seq (.reg false [⟨some 33, .fa 15 (.t 3), none, 0⟩,
     ⟨some 34, .fa 1 (.t 33), none, 0⟩,
     ⟨some 35, .ld 1 false (.t 34), none, 0⟩,
     ⟨some 36, .mv (.t 8), none, 0⟩,
     ⟨some 37, .bin .geq (.t 35) (.t 36), none, 0⟩,
     ⟨some 38, .mv (.t 37), none, 0⟩,
     ⟨some 39, .fa 15 (.t 3), some (38, true), 0⟩,
     ⟨some 40, .fa 1 (.t 39), some (38, true), 0⟩,
     ⟨some 41, .ld 1 false (.t 40), some (38, true), 0⟩,
     ⟨some 42, .mv (.t 8), some (38, true), 0⟩,
     ⟨some 43, .fa 3 (.t 2), some (38, true), 0⟩,
     ⟨some 44, .ld 1 false (.t 43), some (38, true), 0⟩,
     ⟨some 45, .bin .add (.t 42) (.t 44), some (38, true), 0⟩,
     ⟨some 46, .bin .lss (.t 41) (.t 45), some (38, true), 0⟩,
     ⟨some 47, .pick (.t 38) (.t 46) (.c (.d (.v (.bool false)))), none, 0⟩])
   (.cond 47 (.seq (.reg false [⟨some 48, .mv (.t 7), none, 0⟩,
       ⟨some 4, .mv (.t 48), none, 0⟩,
       ⟨some 5, .mv (.c (.d (.v (.bool true)))), none, 0⟩])
     (.ret))
     (.skip))))))
 (.reg false [⟨some 49, .bin .add (.t 27) (.c (.d (.v (.int .i64 1)))), none, 0⟩,
   ⟨some 27, .mv (.t 49), none, 0⟩])))
def K1049_3 : CC := .reg false [⟨some 25, .ld 8 true (.t 6), none, 0⟩,
   ⟨some 26, .call (.c (.fn (.func 65) [] [])) [.t 25], none, 0⟩,
   ⟨some 27, .mv (.c (.d (.v (.int .i64 0)))), none, 0⟩]
def K1049_4 : CC := .reg false [⟨some 23, .ld 8 true (.t 2), none, 0⟩,
   ⟨some 24, .bld [.d (.v (.int .i64 0)), .d (.v (.int .i64 0)), .d (.v (.int .i64 0)), .d (.v (.int .i64 0)), .d (.v (.int .i64 0)), .d (.v (.int .i64 0)), .d (.v (.int .i64 0)), .d (.v (.int .u64 0))] [(0, 8, .t 23)], none, 0⟩,
   ⟨some 6, .newc 87 [.d (.v (.int .i64 0)), .d (.v (.int .i64 0)), .d (.v (.int .i64 0)), .d (.v (.int .i64 0)), .d (.v (.int .i64 0)), .d (.v (.int .i64 0)), .d (.v (.int .i64 0)), .d (.v (.int .u64 0))], none, 0⟩,
   ⟨none, .st 8 (.t 6) (.t 24), none, 0⟩]
def K1049_5 : CC := .seq (.reg false [⟨some 9, .fa 3 (.t 3), none, 0⟩,
   ⟨some 10, .ld 1 false (.t 9), none, 0⟩,
   ⟨some 11, .eq .int true (.t 10) (.c (.d (.v (.int .i64 2)))), none, 0⟩,
   ⟨some 12, .mv (.t 11), none, 0⟩,
   ⟨some 13, .fa 15 (.t 3), some (12, false), 0⟩,
   ⟨some 14, .fa 0 (.t 13), some (12, false), 0⟩,
   ⟨some 15, .ld 1 false (.t 14), some (12, false), 0⟩,
   ⟨some 16, .eq .int true (.t 15) (.c (.d (.v (.int .i64 2)))), some (12, false), 0⟩,
   ⟨some 17, .pick (.t 12) (.c (.d (.v (.bool true)))) (.t 16), none, 0⟩,
   ⟨some 18, .mv (.t 17), none, 0⟩,
   ⟨some 19, .ld 8 true (.t 2), some (18, false), 0⟩,
   ⟨some 20, .call (.c (.fn (.func 64) [] [])) [.t 19], some (18, false), 0⟩,
   ⟨some 21, .eq .int true (.t 20) (.c (.d (.v (.int .i64 0)))), some (18, false), 0⟩,
   ⟨some 22, .pick (.t 18) (.c (.d (.v (.bool true)))) (.t 21), none, 0⟩])
 (.cond 22 (.seq (.reg false [⟨some 4, .mv (.c (.d (.v (.int .i64 (-1))))), none, 0⟩,
     ⟨some 5, .mv (.c (.d (.v (.bool false)))), none, 0⟩])
   (.ret))
   (.skip))
def K1049_6 : CC := .reg false [⟨some 2, .box 36 8 (.t 0), none, 0⟩,
   ⟨some 3, .box 54 20 (.t 1), none, 0⟩,
   ⟨some 4, .mv (.c (.d (.v (.int .i64 0)))), none, 0⟩,
   ⟨some 5, .mv (.c (.d (.v (.bool false)))), none, 0⟩]
/-- coatcheck/guard.Written -/
def C1049 : CF := ⟨2, [(4, none), (5, none)],
 .seq K1049_6 (.seq K1049_5 (.seq K1049_4 (.seq (.seq K1049_3 (.block 0 (.loop L1049_2))) K1049_1)))⟩
theorem c1049 : coF Try.prog Try.f32 = some C1049 := by kernel_rfl
def A1049 : Ann := { keep := [0, 1, 2, 3, 4, 5, 6, 7, 8, 22, 26, 27, 28, 47], live := [(0, [2, 3, 6, 26, 27])] }
def E1049 {Ω : Type} : Env Ω := econs 64 S106 (econs 65 S108 (econs 66 S1082 (enil)))
theorem e1049 : GoodE Try.prog E1049 := GoodE.cons g106 (GoodE.cons g108 (GoodE.cons g1082 (GoodE.nil)))
def Z1049_2 {Ω : Type} (it : Itr Ω) (K : SV → SH → Option Ω) : SE → SS → Option Ω := kblk 0 (kseq it E1049 A1049 K1049_1 0 (kfn C1049 K))
def K1050_1 : CC := .seq (.reg false [⟨some 4, .mv (.c (.d (.v (.int .i64 (-1))))), none, 0⟩])
 (.ret)
def L1050_2 : CC := .seq (.seq (.reg false [⟨some 23, .mv (.t 6), none, 0⟩,
   ⟨some 24, .mv (.t 5), none, 0⟩,
   ⟨some 25, .len (.t 24), none, 0⟩,
   ⟨some 26, .bin .lss (.t 23) (.t 25), none, 0⟩])
 (.cond 26 (.skip)
   (.exit 0)))
 (.seq (.block 1 (.seq (.reg true [⟨some 29, .mv (.t 5), none, 0⟩,
     ⟨some 30, .mv (.t 6), none, 0⟩,
     ⟨some 31, .ixs 3 (.t 29) (.t 30), none, 3⟩,
     ⟨some 32, .fa 0 (.t 31), none, 7⟩,
     ⟨some 33, .ld 1 false (.t 32), none, 15⟩,
     ⟨some 34, .eq .int false (.t 33) (.c (.d (.v (.int .i64 6)))), none, 31⟩,
     ⟨some 35, .mv (.t 34), none, 63⟩,
     ⟨some 36, .ld 8 true (.t 2), some (35, true), 127⟩,
     ⟨some 37, .mv (.t 5), some (35, true), 127⟩,
     ⟨some 38, .mv (.t 6), some (35, true), 127⟩,
     ⟨some 39, .ixs 3 (.t 37) (.t 38), some (35, true), 895⟩,
     ⟨some 40, .ld 3 true (.t 39), some (35, true), 1919⟩,
     ⟨some 41, .call (.c (.fn (.func 68) [] [])) [.t 36, .t 40], some (35, true), 4095⟩,
     ⟨some 42, .fa 15 (.t 3), some (35, true), 127⟩,
     ⟨some 43, .fa 1 (.t 42), some (35, true), 8319⟩,
     ⟨some 44, .ld 1 false (.t 43), some (35, true), 24703⟩,
     ⟨some 45, .eq .int false (.t 41) (.t 44), some (35, true), 65535⟩,
     ⟨some 46, .pick (.t 35) (.t 45) (.c (.d (.v (.bool false)))), none, 131071⟩])
   (.cond 46 (.seq (.reg false [⟨some 47, .mv (.t 5), none, 0⟩,
       ⟨some 48, .mv (.t 6), none, 0⟩,
       ⟨some 49, .ixs 3 (.t 47) (.t 48), none, 0⟩,
       ⟨some 50, .fa 1 (.t 49), none, 0⟩,
       ⟨some 51, .ld 1 false (.t 50), none, 0⟩,
       ⟨some 4, .mv (.t 51), none, 0⟩])
     (.ret))
     (.skip))))
 (.reg false [⟨some 27, .mv (.t 6), none, 0⟩,
   ⟨some 28, .bin .add (.t 27) (.c (.d (.v (.int .i64 1)))), none, 0⟩,
   ⟨some 6, .mv (.t 28), none, 0⟩]))
def K1050_3 : CC := .reg false [⟨some 6, .mv (.c (.d (.v (.int .i64 0)))), none, 0⟩]
def K1050_4 : CC := .reg false [⟨some 21, .ld 8 true (.t 2), none, 0⟩,
   ⟨some 22, .call (.c (.fn (.func 67) [] [])) [.t 21], none, 0⟩,
   ⟨some 5, .mv (.t 22), none, 0⟩]
def K1050_5 : CC := .seq (.reg false [⟨some 7, .fa 3 (.t 3), none, 0⟩,
   ⟨some 8, .ld 1 false (.t 7), none, 0⟩,
   ⟨some 9, .eq .int true (.t 8) (.c (.d (.v (.int .i64 2)))), none, 0⟩,
   ⟨some 10, .mv (.t 9), none, 0⟩,
   ⟨some 11, .fa 15 (.t 3), some (10, false), 0⟩,
   ⟨some 12, .fa 0 (.t 11), some (10, false), 0⟩,
   ⟨some 13, .ld 1 false (.t 12), some (10, false), 0⟩,
   ⟨some 14, .eq .int true (.t 13) (.c (.d (.v (.int .i64 2)))), some (10, false), 0⟩,
   ⟨some 15, .pick (.t 10) (.c (.d (.v (.bool true)))) (.t 14), none, 0⟩,
   ⟨some 16, .mv (.t 15), none, 0⟩,
   ⟨some 17, .ld 8 true (.t 2), some (16, false), 0⟩,
   ⟨some 18, .call (.c (.fn (.func 41) [] [])) [.t 17], some (16, false), 0⟩,
   ⟨some 19, .eq .int true (.t 18) (.c (.d (.v (.int .i64 0)))), some (16, false), 0⟩,
   ⟨some 20, .pick (.t 16) (.c (.d (.v (.bool true)))) (.t 19), none, 0⟩])
 (.cond 20 (.seq (.reg false [⟨some 4, .mv (.c (.d (.v (.int .i64 (-1))))), none, 0⟩])
   (.ret))
   (.skip))
def K1050_6 : CC := .reg false [⟨some 2, .box 36 8 (.t 0), none, 0⟩,
   ⟨some 3, .box 54 20 (.t 1), none, 0⟩,
   ⟨some 4, .mv (.c (.d (.v (.int .i64 0)))), none, 0⟩]
/-- coatcheck/coatcheckref18.Written -/
def C1050 : CF := ⟨2, [(4, none)],
 .seq K1050_6 (.seq K1050_5 (.seq K1050_4 (.seq (.seq K1050_3 (.block 0 (.loop L1050_2))) K1050_1)))⟩
theorem c1050 : coF Try.prog Try.f33 = some C1050 := by kernel_rfl
def A1050 : Ann := { keep := [0, 1, 2, 3, 4, 5, 6, 20, 26, 46], live := [(0, [2, 3, 5, 6])] }
def E1050 {Ω : Type} : Env Ω := econs 41 S19 (econs 67 S20d (econs 68 S82 (enil)))
theorem e1050 : GoodE Try.prog E1050 := GoodE.cons g19 (GoodE.cons g20d (GoodE.cons g82 (GoodE.nil)))
def Z1050_2 {Ω : Type} (it : Itr Ω) (K : SV → SH → Option Ω) : SE → SS → Option Ω := kblk 0 (kseq it E1050 A1050 K1050_1 0 (kfn C1050 K))
def K1047_1 : CC := .seq (.reg false [⟨some 40, .mv (.t 3), none, 0⟩,
   ⟨some 41, .call (.c (.fn (.func 61) [] [])) [.t 40], none, 0⟩])
 (.seq (.reg false [⟨some 42, .mv (.t 3), none, 0⟩,
   ⟨some 43, .call (.c (.fn (.func 62) [] [])) [.t 42], none, 0⟩,
   ⟨some 2, .mv (.t 43), none, 0⟩])
 (.ret))
def L1047_2 : CC := .seq (.reg false [⟨some 9, .bin .lss (.t 8) (.t 7), none, 0⟩])
 (.seq (.cond 9 (.skip)
   (.exit 0))
 (.seq (.block 1 (.seq (.reg false [⟨some 10, .ixs 33 (.t 6) (.t 8), none, 0⟩,
     ⟨some 11, .ld 33 true (.t 10), none, 0⟩,
     ⟨some 5, .newc 60 [.d (.v (.int .i64 0)), .d (.v (.int .i64 0)), .d (.v (.int .u64 0)), .d (.v (.int .u64 0)), .d (.v (.int .i64 0)), .d (.v (.bool false)), .d (.v (.int .i64 0)), .d (.v (.int .i64 0)), .d (.v (.bool false)), .d (.v (.int .u64 0)), .d (.v (.slice none 0 0)), .d (.v (.int .u64 0)), .d (.v (.slice none 0 0)), .d (.v (.int .u64 0)), .d (.v (.slice none 0 0)), .d (.v (.int .u64 0)), .d (.v (.slice none 0 0)), .d (.v (.slice none 0 0)), .d (.v (.int .i64 0)), .d (.v (.int .i64 0)), .d (.v (.int .i64 0)), .d (.v (.int .i64 0)), .d (.v (.int .i64 0)), .d (.v (.int .u64 0)), .d (.v (.int .u64 0)), .d (.v (.int .u64 0)), .d (.v (.int .u64 0)), .d (.v (.int .u64 0)), .d (.v (.int .i64 0)), .d (.v (.slice none 0 0)), .d (.v (.int .u64 0)), .d (.v (.int .i64 0)), .d (.v (.bool false))], none, 0⟩,
     ⟨none, .st 33 (.t 5) (.t 11), none, 0⟩])
   (.seq (.seq (.reg false [⟨some 12, .fa 0 (.t 5), none, 0⟩,
     ⟨some 13, .ld 1 false (.t 12), none, 0⟩,
     ⟨some 14, .eq .int false (.t 13) (.c (.d (.v (.int .i64 61)))), none, 0⟩,
     ⟨some 15, .mv (.t 14), none, 0⟩,
     ⟨some 16, .fa 21 (.t 5), some (15, true), 0⟩,
     ⟨some 17, .ld 1 false (.t 16), some (15, true), 0⟩,
     ⟨some 18, .eq .int true (.t 17) (.c (.d (.v (.int .i64 0)))), some (15, true), 0⟩,
     ⟨some 19, .pick (.t 15) (.t 18) (.c (.d (.v (.bool false)))), none, 0⟩])
   (.cond 19 (.reg false [⟨some 20, .mv (.t 3), none, 0⟩,
       ⟨some 21, .fa 21 (.t 5), none, 0⟩,
       ⟨some 22, .ld 1 false (.t 21), none, 0⟩,
       ⟨some 23, .bin .sub (.t 22) (.c (.d (.v (.int .i64 1)))), none, 0⟩,
       ⟨some 24, .bsl 3 1 1 [.d (.v (.int .i64 0))] [(0, 1, .t 23)], none, 0⟩,
       ⟨some 25, .app 3 1 8 (some .i64) (.t 20) (.t 24), none, 0⟩,
       ⟨some 3, .mv (.t 25), none, 0⟩])
     (.skip)))
   (.seq (.reg false [⟨some 26, .fa 8 (.t 5), none, 0⟩,
     ⟨some 27, .ld 1 false (.t 26), none, 0⟩,
     ⟨some 28, .mv (.t 27), none, 0⟩,
     ⟨some 29, .fa 22 (.t 5), some (28, true), 0⟩,
     ⟨some 30, .ld 1 false (.t 29), some (28, true), 0⟩,
     ⟨some 31, .eq .int true (.t 30) (.c (.d (.v (.int .i64 0)))), some (28, true), 0⟩,
     ⟨some 32, .pick (.t 28) (.t 31) (.c (.d (.v (.bool false)))), none, 0⟩])
   (.cond 32 (.reg false [⟨some 33, .mv (.t 3), none, 0⟩,
       ⟨some 34, .fa 22 (.t 5), none, 0⟩,
       ⟨some 35, .ld 1 false (.t 34), none, 0⟩,
       ⟨some 36, .bin .sub (.t 35) (.c (.d (.v (.int .i64 1)))), none, 0⟩,
       ⟨some 37, .bsl 3 1 1 [.d (.v (.int .i64 0))] [(0, 1, .t 36)], none, 0⟩,
       ⟨some 38, .app 3 1 8 (some .i64) (.t 33) (.t 37), none, 0⟩,
       ⟨some 3, .mv (.t 38), none, 0⟩])
     (.skip))))))
 (.reg false [⟨some 39, .bin .add (.t 8) (.c (.d (.v (.int .i64 1)))), none, 0⟩,
   ⟨some 8, .mv (.t 39), none, 0⟩])))
def K1047_3 : CC := .reg false [⟨some 6, .mv (.t 0), none, 0⟩,
   ⟨some 7, .len (.t 6), none, 0⟩,
   ⟨some 8, .mv (.c (.d (.v (.int .i64 0)))), none, 0⟩]
def K1047_4 : CC := .reg false [⟨some 3, .mv (.c (.d (.v (.slice none 0 0)))), none, 0⟩]
def K1047_5 : CC := .reg false [⟨some 2, .mv (.c (.d (.v (.slice none 0 0)))), none, 0⟩]
/-- coatcheck/guard.Seen -/
def C1047 : CF := ⟨1, [(2, none)],
 .seq K1047_5 (.seq K1047_4 (.seq (.seq K1047_3 (.block 0 (.loop L1047_2))) K1047_1))⟩
theorem c1047 : coF Try.prog Try.f30 = some C1047 := by kernel_rfl
def A1047 : Ann := { keep := [0, 2, 3, 5, 6, 7, 8, 9, 19, 32], live := [(0, [3, 6, 7, 8])] }
def E1047 {Ω : Type} : Env Ω := econs 61 S1079s (econs 62 S1080n (enil))
theorem e1047 : GoodE Try.prog E1047 := GoodE.cons g1079s (GoodE.cons g1080n (GoodE.nil))
def Z1047_2 {Ω : Type} (it : Itr Ω) (K : SV → SH → Option Ω) : SE → SS → Option Ω := kblk 0 (kseq it E1047 A1047 K1047_1 0 (kfn C1047 K))
end Go.Sx.Pr

/- GuardTells: the list of the blocks that are read. Plain Lean. -/
namespace Go.Sx.Pr
namespace Gd
open Go Go.Sx Go.Sx.Md

/-- compact, cell by cell. -/
theorem mem_compact {zs : List Int} {x : Int} : x ∈ Lib.compact zs ↔ ∃ i, i < zs.length ∧ Lib.keeps zs.toArray i = true ∧ zs.getD i 0 = x := by
  unfold Lib.compact Lib.compactUpTo
  simp only [List.mem_map, List.mem_filter, List.mem_range]
  constructor
  · rintro ⟨i, ⟨h1, h2⟩, rfl⟩
    exact ⟨i, h1, h2, by simp [List.getD_eq_getElem?_getD, h1]⟩
  · rintro ⟨i, h1, h2, rfl⟩
    exact ⟨i, ⟨h1, h2⟩, by simp [List.getD_eq_getElem?_getD, h1]⟩
theorem keeps_iff {zs : List Int} {i : Nat} (h : i < zs.length) : Lib.keeps zs.toArray i = true ↔ (i = 0 ∨ zs.getD i 0 ≠ zs.getD (i - 1) 0) := by
  unfold Lib.keeps
  simp [List.getD_eq_getElem?_getD, h, show i - 1 < zs.length by omega]
theorem mem_sorted_compact {zs : List Int} {x : Int} : x ∈ Lib.compact zs ↔ x ∈ zs := by
  rw [mem_compact]
  constructor
  · rintro ⟨i, h1, h2, rfl⟩
    simp [List.getD_eq_getElem?_getD, h1]
  · intro hx
    obtain ⟨i, h1, rfl⟩ := List.mem_iff_getElem.1 hx
    -- the least place of the value
    have : ∀ n, ∀ j, j < n → ∀ (hj : j < zs.length), ∃ k, k < zs.length ∧ Lib.keeps zs.toArray k = true ∧ zs.getD k 0 = zs[j] := by
      intro n
      induction n with
      | zero => intro j hj; omega
      | succ n ih =>
        intro j hjn hj
        by_cases hk : Lib.keeps zs.toArray j = true
        · exact ⟨j, hj, hk, by simp [List.getD_eq_getElem?_getD, hj]⟩
        · rw [keeps_iff hj] at hk
          have h2 : j ≠ 0 := fun e => hk (.inl e)
          have h3 : zs.getD j 0 = zs.getD (j - 1) 0 := Decidable.byContradiction fun e => hk (.inr e)
          obtain ⟨k, k1, k2, k3⟩ := ih (j - 1) (by omega) (by omega)
          refine ⟨k, k1, k2, k3.trans ?_⟩
          simp only [List.getD_eq_getElem?_getD, List.getElem?_eq_getElem hj, List.getElem?_eq_getElem (show j - 1 < zs.length by omega), Option.getD_some] at h3
          exact h3.symm
    exact this (i + 1) i (by omega) h1
theorem compact_lt {zs : List Int} (h : zs.Pairwise (· ≤ ·)) : (Lib.compact zs).Pairwise (· < ·) := by
  unfold Lib.compact Lib.compactUpTo
  rw [List.pairwise_map]
  have hr : ((List.range zs.length).filter (Lib.keeps zs.toArray)).Pairwise (· < ·) := (List.pairwise_lt_range).filter _
  refine List.Pairwise.imp_of_mem ?_ hr
  intro i j hi hj hij
  simp only [List.mem_filter, List.mem_range] at hi hj
  obtain ⟨i1, i2⟩ := hi
  obtain ⟨j1, j2⟩ := hj
  rw [keeps_iff j1] at j2
  have ej : zs.toArray[j]! = zs.getD j 0 := by simp [List.getD_eq_getElem?_getD, j1]
  have ei : zs.toArray[i]! = zs.getD i 0 := by simp [List.getD_eq_getElem?_getD, i1]
  rw [ei, ej]
  have hle : ∀ a b, a < b → (hb : b < zs.length) → zs.getD a 0 ≤ zs.getD b 0 := fun a b hab hb => by
    have := List.pairwise_iff_getElem.1 h a b (by omega) hb hab
    simpa [List.getD_eq_getElem?_getD, hb, show a < zs.length by omega] using this
  rcases j2 with j2 | j2
  · omega
  · have a1 := hle (j - 1) j (by omega) j1
    by_cases e : i = j - 1
    · subst e; omega
    · have a2 := hle i (j - 1) (by omega) (by omega)
      omega

theorem sorted_pw {xs : List Int} : (sorted xs).Pairwise (· ≤ ·) := by
  have := List.pairwise_mergeSort (le := fun x y : Int => decide (x ≤ y)) (fun a b c h1 h2 => by simp only [decide_eq_true_eq] at *; omega) (fun a b => by simp only [Bool.or_eq_true, decide_eq_true_eq]; omega) xs
  exact this.imp fun h => by simpa using h

/-- What one worker reads. -/
def coll1 (x : Wk) : List Int := (bif (x.line == 61) && !(x.C == 0) then [x.C - 1] else []) ++ (bif x.pinned && !(x.borrow == 0) then [x.borrow - 1] else [])
def coll : List Wk → List Int
  | [] => []
  | x :: r => coll1 x ++ coll r
def sees1 (x : Wk) (b : Int) : Bool := ((x.line == 61) && (x.C == b + 1)) || (x.pinned && (x.borrow == b + 1))
def seesL (ws : List Wk) (b : Int) : Bool := ws.any fun x => sees1 x b
def seenV (ws : List Wk) : List Int := Lib.compact (sorted (coll ws))
/-- Blocks below 60. -/
def smallG (ws : List Wk) : Bool := ws.all fun x => (decide (0 ≤ x.C) && decide (x.C ≤ 60)) && (decide (0 ≤ x.borrow) && decide (x.borrow ≤ 60))

theorem mem_coll1 {x : Wk} {b : Int} (hb : 0 ≤ b) : b ∈ coll1 x ↔ sees1 x b = true := by
  unfold coll1 sees1
  simp only [List.mem_append, Bool.or_eq_true, Bool.and_eq_true, beq_iff_eq]
  constructor
  · rintro (h | h)
    · cases e : (x.line == 61) && !(x.C == 0) with
      | false => rw [e] at h; simp at h
      | true =>
        rw [e] at h
        simp only [cond_true, List.mem_singleton] at h
        simp only [Bool.and_eq_true, beq_iff_eq] at e
        exact .inl ⟨e.1, by omega⟩
    · cases e : x.pinned && !(x.borrow == 0) with
      | false => rw [e] at h; simp at h
      | true =>
        rw [e] at h
        simp only [cond_true, List.mem_singleton] at h
        simp only [Bool.and_eq_true, beq_iff_eq] at e
        exact .inr ⟨e.1, by omega⟩
  · rintro (⟨h1, h2⟩ | ⟨h1, h2⟩)
    · refine .inl ?_
      rw [show ((x.line == 61) && !(x.C == 0)) = true by simp [h1]; omega]
      simp only [cond_true, List.mem_singleton]; omega
    · refine .inr ?_
      rw [show (x.pinned && !(x.borrow == 0)) = true by simp [h1]; omega]
      simp only [cond_true, List.mem_singleton]; omega
theorem mem_coll {b : Int} (hb : 0 ≤ b) : ∀ {ws : List Wk}, b ∈ coll ws ↔ seesL ws b = true
  | [] => by simp [coll, seesL]
  | x :: r => by
    have ih := mem_coll hb (ws := r)
    unfold seesL at ih ⊢
    simp only [coll, List.mem_append, List.any_cons, Bool.or_eq_true]
    rw [mem_coll1 hb, ih]
theorem coll_lo {b : Int} : ∀ {ws : List Wk}, smallG ws = true → b ∈ coll ws → 0 ≤ b ∧ b < 60
  | [], _, h => by simp [coll] at h
  | x :: r, hs, h => by
    simp only [smallG, List.all_cons, Bool.and_eq_true, decide_eq_true_eq] at hs
    obtain ⟨⟨⟨c0, c1⟩, d0, d1⟩, hs2⟩ := hs
    simp only [coll, List.mem_append, coll1] at h
    rcases h with (h | h) | h
    · cases e : (x.line == 61) && !(x.C == 0) with
      | false => rw [e] at h; simp at h
      | true =>
        rw [e] at h
        simp only [cond_true, List.mem_singleton] at h
        simp only [Bool.and_eq_true, Bool.not_eq_true', beq_eq_false_iff_ne] at e
        have := e.2
        omega
    · cases e : x.pinned && !(x.borrow == 0) with
      | false => rw [e] at h; simp at h
      | true =>
        rw [e] at h
        simp only [cond_true, List.mem_singleton] at h
        simp only [Bool.and_eq_true, Bool.not_eq_true', beq_eq_false_iff_ne] at e
        have := e.2
        omega
    · exact coll_lo (by simpa [smallG] using hs2) h
theorem seen_mem {ws : List Wk} {b : Int} (hb : 0 ≤ b) : b ∈ seenV ws ↔ seesL ws b = true := by
  unfold seenV sorted
  rw [mem_sorted_compact, List.mem_mergeSort, mem_coll hb]
theorem seen_lt {ws : List Wk} : (seenV ws).Pairwise (· < ·) := compact_lt sorted_pw
theorem seen_lo {ws : List Wk} (h : smallG ws = true) {b : Int} (hb : b ∈ seenV ws) : 0 ≤ b ∧ b < 60 := by
  unfold seenV sorted at hb
  rw [mem_sorted_compact, List.mem_mergeSort] at hb
  exact coll_lo h hb
theorem seen_has {ws : List Wk} {b : Int} (hb : 0 ≤ b) : (seenV ws).contains b = seesL ws b := by
  rw [Bool.eq_iff_iff, List.contains_iff_mem, seen_mem hb]

/-- The law's walk along the blocks: b seen, k of them so far. -/
def AtG (ws : List Wk) (b : Int) (k : Nat) : Prop := ∃ p r, seenV ws = p ++ r ∧ p.length = k ∧ (∀ x, x ∈ p → x < b) ∧ (∀ x, x ∈ r → b ≤ x)
theorem atG_0 {ws : List Wk} (h : smallG ws = true) : AtG ws 0 0 := ⟨[], _, rfl, rfl, by simp, fun x hx => (seen_lo h hx).1⟩
theorem atG_yes {ws : List Wk} {b : Int} {k : Nat} (hb : 0 ≤ b) (h : AtG ws b k) (hs : seesL ws b = true) : k < (seenV ws).length ∧ (seenV ws).getD k 0 = b ∧ AtG ws (b + 1) (k + 1) := by
  obtain ⟨p, r, e, hk, h1, h2⟩ := h
  have hm := (seen_mem hb).2 hs
  have hp := seen_lt (ws := ws)
  rw [e] at hm hp
  have hr : b ∈ r := by
    rcases List.mem_append.1 hm with q | q
    · have := h1 b q; omega
    · exact q
  cases r with
  | nil => simp at hr
  | cons y r =>
    have hy : y = b := by
      rcases List.mem_cons.1 hr with q | q
      · exact q.symm
      · have a1 := h2 y (by simp)
        have a2 := (List.pairwise_cons.1 (List.pairwise_append.1 hp).2.1).1 b q
        omega
    subst hy
    refine ⟨by rw [e]; simp; omega, by rw [e, ← hk]; simp [List.getD_eq_getElem?_getD], p ++ [y], r, by rw [e]; simp, by simp; omega, fun x hx => ?_, fun x hx => ?_⟩
    · rcases List.mem_append.1 hx with q | q
      · have := h1 x q; omega
      · simp at q; omega
    · have := (List.pairwise_cons.1 (List.pairwise_append.1 hp).2.1).1 x hx
      omega
theorem atG_no {ws : List Wk} {b : Int} {k : Nat} (hb : 0 ≤ b) (h : AtG ws b k) (hs : seesL ws b = false) : AtG ws (b + 1) k := by
  obtain ⟨p, r, e, hk, h1, h2⟩ := h
  refine ⟨p, r, e, hk, fun x hx => by have := h1 x hx; omega, fun x hx => ?_⟩
  have := h2 x hx
  by_cases q : x = b
  · subst q
    have := (seen_mem hb).1 (show x ∈ seenV ws by rw [e]; simp [hx])
    rw [this] at hs; cases hs
  · omega
theorem atG_end {ws : List Wk} {k : Nat} (hs : smallG ws = true) (h : AtG ws 60 k) : k = (seenV ws).length := by
  obtain ⟨p, r, e, hk, h1, h2⟩ := h
  cases r with
  | nil => rw [e]; simp; omega
  | cons y r =>
    have a := h2 y (by simp)
    have b := seen_lo hs (show y ∈ seenV ws by rw [e]; simp)
    omega
end Gd
end Go.Sx.Pr

/- GuardTells: the normal forms of Seen, Sees, and both layers' Written. -/
namespace Go.Sx.Pr
namespace Gd
open Go Go.Sx Go.Sx.Md Go.Proofs
set_option maxRecDepth 100000
theorem n1048 {Ω : Type} (it : Itr Ω) (K : SV → SH → Option Ω) (n : Nat) (a : Nat → Wk) (b : Int) :
    sxFnI it E1048 A1048 C1048 [.d (.sl 33 n (rowW a)), I b] [] K =
    it [0, 1, 5] 0 (sxI it E1048 A1048 L1048_2 0) (SS.mk [(0, .d (DV.sl 33 n (rowW a))), (1, I b), (5, I 0)] []) (Z1048_2 it K) := by kernel_rfl
theorem r1048 {Ω : Type} (it : Itr Ω) (IT : SS → Option Ω) (K : SV → SH → Option Ω) (n : Nat) (a : Nat → Wk) (b i : Int) :
    sxI it E1048 A1048 L1048_2 0 ⟨[(0, .d (.sl 33 n (rowW a))), (1, I b), (5, I i)], []⟩ (kitV [0, 1, 5] 0 IT (Z1048_2 it K)) =
    br (decide (i < (↑n : Int))) (br (inB i n) (br (Wk.line (a (Int.toNat i)) == 61) (br (Wk.C (a (Int.toNat i)) == IntKind.wrap .i64 (b + 1)) (K (B true) []) (br (Wk.pinned (a (Int.toNat i))) (br (Wk.borrow (a (Int.toNat i)) == IntKind.wrap .i64 (b + 1)) (K (B true) []) (IT (SS.mk [(0, .d (DV.sl 33 n (rowW a))), (1, I b), (5, I (w64' (i + 1)))] []))) (IT (SS.mk [(0, .d (DV.sl 33 n (rowW a))), (1, I b), (5, I (w64' (i + 1)))] [])))) (br (Wk.pinned (a (Int.toNat i))) (br (Wk.borrow (a (Int.toNat i)) == IntKind.wrap .i64 (b + 1)) (K (B true) []) (IT (SS.mk [(0, .d (DV.sl 33 n (rowW a))), (1, I b), (5, I (w64' (i + 1)))] []))) (IT (SS.mk [(0, .d (DV.sl 33 n (rowW a))), (1, I b), (5, I (w64' (i + 1)))] [])))) none) (K (B false) []) := by kernel_rfl
theorem n1049 {Ω : Type} (it : Itr Ω) (K : SV → SH → Option Ω) (c : Cf) (e : Ev5) :
    sxFnI it E1049 A1049 C1049 [.agg (encC c), .agg (encV e)] [] K =
    br (!Ev5.kind e == 2) (K (.tup [I (-1), B false]) [.cells 36 (encC c), .cells 54 (encV e)]) (br (!Ev5.ak e == 2) (K (.tup [I (-1), B false]) [.cells 36 (encC c), .cells 54 (encV e)]) (br (!chkC c == 0) (K (.tup [I (-1), B false]) [.cells 36 (encC c), .cells 54 (encV e)]) (br (!chkC c == 0) (it [2, 3, 6, 26, 27] 3 (sxI it E1049 A1049 L1049_2 0) (SS.mk [(2, .ptr 0 0), (3, .ptr 1 0), (6, .ptr 2 0), (26, I 0), (27, I 0)] [.cells 36 (encC c), .cells 54 (encV e), .cells 87 (encC c)]) (Z1049_2 it K)) (it [2, 3, 6, 26, 27] 3 (sxI it E1049 A1049 L1049_2 0) (SS.mk [(2, .ptr 0 0), (3, .ptr 1 0), (6, .ptr 2 0), (26, I (w64' (Cf.b c * Cf.c c))), (27, I 0)] [.cells 36 (encC c), .cells 54 (encV e), .cells 87 (encC c)]) (Z1049_2 it K))))) := by kernel_rfl
theorem r1049 {Ω : Type} (it : Itr Ω) (IT : SS → Option Ω) (K : SV → SH → Option Ω) (c : Cf) (e : Ev5) (tot i : Int) :
    sxI it E1049 A1049 L1049_2 0 ⟨[(2, .ptr 0 0), (3, .ptr 1 0), (6, .ptr 2 0), (26, I tot), (27, I i)], [.cells 36 (encC c), .cells 54 (encV e), .cells 87 (encC c)]⟩ (kitV [2, 3, 6, 26, 27] 3 IT (Z1049_2 it K)) =
    br (decide (i < tot)) (br (decide (adr c 5 i ≥ 0)) (br (decide (0 < Cf.d c)) (br (decide (Ev5.aa e ≥ IntKind.wrap .i64 (w64' (adr c 5 i + 1) + 0))) (br (decide (Ev5.aa e < IntKind.wrap .i64 (w64' (w64' (adr c 5 i + 1) + 0) + Cf.d c))) (K (.tup [I i, B true]) [.cells 36 (encC c), .cells 54 (encV e), .cells 87 (encC c)]) (IT (SS.mk [(2, .ptr 0 0), (3, .ptr 1 0), (6, .ptr 2 0), (26, I tot), (27, I (w64' (i + 1)))] [.cells 36 (encC c), .cells 54 (encV e), .cells 87 (encC c)]))) (IT (SS.mk [(2, .ptr 0 0), (3, .ptr 1 0), (6, .ptr 2 0), (26, I tot), (27, I (w64' (i + 1)))] [.cells 36 (encC c), .cells 54 (encV e), .cells 87 (encC c)]))) (br (decide (Ev5.aa e ≥ -1)) (br (decide (Ev5.aa e < IntKind.wrap .i64 (-1 + Cf.d c))) (K (.tup [I i, B true]) [.cells 36 (encC c), .cells 54 (encV e), .cells 87 (encC c)]) (IT (SS.mk [(2, .ptr 0 0), (3, .ptr 1 0), (6, .ptr 2 0), (26, I tot), (27, I (w64' (i + 1)))] [.cells 36 (encC c), .cells 54 (encV e), .cells 87 (encC c)]))) (IT (SS.mk [(2, .ptr 0 0), (3, .ptr 1 0), (6, .ptr 2 0), (26, I tot), (27, I (w64' (i + 1)))] [.cells 36 (encC c), .cells 54 (encV e), .cells 87 (encC c)])))) (br (decide (Ev5.aa e ≥ -1)) (br (decide (Ev5.aa e < IntKind.wrap .i64 (-1 + Cf.d c))) (K (.tup [I i, B true]) [.cells 36 (encC c), .cells 54 (encV e), .cells 87 (encC c)]) (IT (SS.mk [(2, .ptr 0 0), (3, .ptr 1 0), (6, .ptr 2 0), (26, I tot), (27, I (w64' (i + 1)))] [.cells 36 (encC c), .cells 54 (encV e), .cells 87 (encC c)]))) (IT (SS.mk [(2, .ptr 0 0), (3, .ptr 1 0), (6, .ptr 2 0), (26, I tot), (27, I (w64' (i + 1)))] [.cells 36 (encC c), .cells 54 (encV e), .cells 87 (encC c)])))) (K (.tup [I (-1), B false]) [.cells 36 (encC c), .cells 54 (encV e), .cells 87 (encC c)]) := by kernel_rfl
theorem n1050 {Ω : Type} (it : Itr Ω) (K : SV → SH → Option Ω) (c : Cf) (e : Ev5) :
    sxFnI it E1050 A1050 C1050 [.agg (encC c), .agg (encV e)] [] K =
    br (!Ev5.kind e == 2) (K (I (-1)) [.cells 36 (encC c), .cells 54 (encV e)]) (br (!Ev5.ak e == 2) (K (I (-1)) [.cells 36 (encC c), .cells 54 (encV e)]) (br (!chkC c == 0) (K (I (-1)) [.cells 36 (encC c), .cells 54 (encV e)]) (br (chkC c == 0) (it [2, 3, 5, 6] 2 (sxI it E1050 A1050 L1050_2 0) (SS.mk [(2, .ptr 0 0), (3, .ptr 1 0), (5, .d (DV.sl 3 (sizeN (Int.toNat (Cf.a c)) (Int.toNat (Cf.b c)) (Int.toNat (Cf.c c)) (Int.toNat (Cf.d c)) (Int.toNat (Cf.e c))) fun i j => DV.v ((fun i j => Value.int .i64 (spot (Int.toNat (Cf.a c)) (Int.toNat (Cf.b c)) (Int.toNat (Cf.d c)) (Int.toNat (Cf.e c)) i j)) i j))), (6, I 0)] [.cells 36 (encC c), .cells 54 (encV e)]) (Z1050_2 it K)) none))) := by kernel_rfl
theorem r1050 {Ω : Type} (it : Itr Ω) (IT : SS → Option Ω) (K : SV → SH → Option Ω) (c : Cf) (e : Ev5) (n : Nat) (f : Nat → Nat → Int) (i : Int) :
    sxI it E1050 A1050 L1050_2 0 ⟨[(2, .ptr 0 0), (3, .ptr 1 0), (5, .d (.sl 3 n fun i j => .v (.int .i64 (f i j)))), (6, I i)], [.cells 36 (encC c), .cells 54 (encV e)]⟩ (kitV [2, 3, 5, 6] 2 IT (Z1050_2 it K)) =
    br (decide (i < (↑n : Int))) (br (inB i n) (br (f (Int.toNat i) 0 == 6) (br (inB i n) (br (atV (Cf.a c) (Cf.b c) (Cf.c c) (Cf.d c) (Cf.e c) (Cf.f c) (Cf.g c) (Cf.l c) (f (Int.toNat i) 0) (f (Int.toNat i) 1) (f (Int.toNat i) 2) == Ev5.aa e) (br (inB i n) (K (I (f (Int.toNat i) 1)) [.cells 36 (encC c), .cells 54 (encV e)]) none) (IT (SS.mk [(2, .ptr 0 0), (3, .ptr 1 0), (5, .d (DV.sl 3 n fun i j => DV.v (Value.int .i64 (f i j)))), (6, I (w64' (i + 1)))] [.cells 36 (encC c), .cells 54 (encV e)]))) none) (IT (SS.mk [(2, .ptr 0 0), (3, .ptr 1 0), (5, .d (DV.sl 3 n fun i j => DV.v (Value.int .i64 (f i j)))), (6, I (w64' (i + 1)))] [.cells 36 (encC c), .cells 54 (encV e)]))) none) (K (I (-1)) [.cells 36 (encC c), .cells 54 (encV e)]) := by kernel_rfl
theorem n1047 {Ω : Type} (it : Itr Ω) (K : SV → SH → Option Ω) (n : Nat) (a : Nat → Wk) :
    sxFnI it E1047 A1047 C1047 [.d (.sl 33 n (rowW a))] [] K =
    it [3, 6, 7, 8] 0 (sxI it E1047 A1047 L1047_2 0) (SS.mk [(3, .d (DV.v (Value.slice none 0 0))), (6, .d (DV.sl 33 n (rowW a))), (7, I (↑n : Int)), (8, I 0)] []) (Z1047_2 it K) := by kernel_rfl
theorem r1047 {Ω : Type} (it : Itr Ω) (IT : SS → Option Ω) (K : SV → SH → Option Ω) (n : Nat) (a : Nat → Wk) (m i : Int) :
    sxI it E1047 A1047 L1047_2 0 ⟨[(3, .d (.v (.slice none 0 0))), (6, .d (.sl 33 n (rowW a))), (7, I m), (8, I i)], []⟩ (kitV [3, 6, 7, 8] 0 IT (Z1047_2 it K)) =
    br (decide (i < m)) (br (inB i n) (br (Wk.line (a (Int.toNat i)) == 61) (br (!Wk.C (a (Int.toNat i)) == 0) (br (Wk.pinned (a (Int.toNat i))) (br (!Wk.borrow (a (Int.toNat i)) == 0) (IT (SS.mk [(3, .own 2), (6, .d (DV.sl 33 n (rowW a))), (7, I m), (8, I (w64' (i + 1)))] [.dead, .dead, .rowi 3 .i64 [IntKind.wrap .i64 (Wk.C (a (Int.toNat i)) - 1), IntKind.wrap .i64 (Wk.borrow (a (Int.toNat i)) - 1)]])) (IT (SS.mk [(3, .own 2), (6, .d (DV.sl 33 n (rowW a))), (7, I m), (8, I (w64' (i + 1)))] [.dead, .dead, .rowi 3 .i64 [IntKind.wrap .i64 (Wk.C (a (Int.toNat i)) - 1)]]))) (IT (SS.mk [(3, .own 2), (6, .d (DV.sl 33 n (rowW a))), (7, I m), (8, I (w64' (i + 1)))] [.dead, .dead, .rowi 3 .i64 [IntKind.wrap .i64 (Wk.C (a (Int.toNat i)) - 1)]]))) (br (Wk.pinned (a (Int.toNat i))) (br (!Wk.borrow (a (Int.toNat i)) == 0) (IT (SS.mk [(3, .own 2), (6, .d (DV.sl 33 n (rowW a))), (7, I m), (8, I (w64' (i + 1)))] [.dead, .dead, .rowi 3 .i64 [IntKind.wrap .i64 (Wk.borrow (a (Int.toNat i)) - 1)]])) (IT (SS.mk [(3, .d (DV.v (Value.slice none 0 0))), (6, .d (DV.sl 33 n (rowW a))), (7, I m), (8, I (w64' (i + 1)))] []))) (IT (SS.mk [(3, .d (DV.v (Value.slice none 0 0))), (6, .d (DV.sl 33 n (rowW a))), (7, I m), (8, I (w64' (i + 1)))] [])))) (br (Wk.pinned (a (Int.toNat i))) (br (!Wk.borrow (a (Int.toNat i)) == 0) (IT (SS.mk [(3, .own 2), (6, .d (DV.sl 33 n (rowW a))), (7, I m), (8, I (w64' (i + 1)))] [.dead, .dead, .rowi 3 .i64 [IntKind.wrap .i64 (Wk.borrow (a (Int.toNat i)) - 1)]])) (IT (SS.mk [(3, .d (DV.v (Value.slice none 0 0))), (6, .d (DV.sl 33 n (rowW a))), (7, I m), (8, I (w64' (i + 1)))] []))) (IT (SS.mk [(3, .d (DV.v (Value.slice none 0 0))), (6, .d (DV.sl 33 n (rowW a))), (7, I m), (8, I (w64' (i + 1)))] [])))) none) (K (.d (DV.v (Value.slice none 0 0))) []) := by kernel_rfl
theorem s1047 {Ω : Type} (it : Itr Ω) (IT : SS → Option Ω) (K : SV → SH → Option Ω) (n : Nat) (a : Nat → Wk) (m i : Int) (xs : List Int) :
    sxI it E1047 A1047 L1047_2 0 ⟨[(3, .own 2), (6, .d (.sl 33 n (rowW a))), (7, I m), (8, I i)], [.dead, .dead, .rowi 3 .i64 xs]⟩ (kitV [3, 6, 7, 8] 0 IT (Z1047_2 it K)) =
    br (decide (i < m)) (br (inB i n) (br (Wk.line (a (Int.toNat i)) == 61) (br (!Wk.C (a (Int.toNat i)) == 0) (br (fits (List.length xs + 1) 8) (br (Wk.pinned (a (Int.toNat i))) (br (!Wk.borrow (a (Int.toNat i)) == 0) (br (fits (List.length (xs ++ [IntKind.wrap .i64 (Wk.C (a (Int.toNat i)) - 1)]) + 1) 8) (IT (SS.mk [(3, .own 2), (6, .d (DV.sl 33 n (rowW a))), (7, I m), (8, I (w64' (i + 1)))] [.dead, .dead, .rowi 3 .i64 (xs ++ [IntKind.wrap .i64 (Wk.C (a (Int.toNat i)) - 1)] ++ [IntKind.wrap .i64 (Wk.borrow (a (Int.toNat i)) - 1)])])) none) (IT (SS.mk [(3, .own 2), (6, .d (DV.sl 33 n (rowW a))), (7, I m), (8, I (w64' (i + 1)))] [.dead, .dead, .rowi 3 .i64 (xs ++ [IntKind.wrap .i64 (Wk.C (a (Int.toNat i)) - 1)])]))) (IT (SS.mk [(3, .own 2), (6, .d (DV.sl 33 n (rowW a))), (7, I m), (8, I (w64' (i + 1)))] [.dead, .dead, .rowi 3 .i64 (xs ++ [IntKind.wrap .i64 (Wk.C (a (Int.toNat i)) - 1)])]))) none) (br (Wk.pinned (a (Int.toNat i))) (br (!Wk.borrow (a (Int.toNat i)) == 0) (br (fits (List.length xs + 1) 8) (IT (SS.mk [(3, .own 2), (6, .d (DV.sl 33 n (rowW a))), (7, I m), (8, I (w64' (i + 1)))] [.dead, .dead, .rowi 3 .i64 (xs ++ [IntKind.wrap .i64 (Wk.borrow (a (Int.toNat i)) - 1)])])) none) (IT (SS.mk [(3, .own 2), (6, .d (DV.sl 33 n (rowW a))), (7, I m), (8, I (w64' (i + 1)))] [.dead, .dead, .rowi 3 .i64 xs]))) (IT (SS.mk [(3, .own 2), (6, .d (DV.sl 33 n (rowW a))), (7, I m), (8, I (w64' (i + 1)))] [.dead, .dead, .rowi 3 .i64 xs])))) (br (Wk.pinned (a (Int.toNat i))) (br (!Wk.borrow (a (Int.toNat i)) == 0) (br (fits (List.length xs + 1) 8) (IT (SS.mk [(3, .own 2), (6, .d (DV.sl 33 n (rowW a))), (7, I m), (8, I (w64' (i + 1)))] [.dead, .dead, .rowi 3 .i64 (xs ++ [IntKind.wrap .i64 (Wk.borrow (a (Int.toNat i)) - 1)])])) none) (IT (SS.mk [(3, .own 2), (6, .d (DV.sl 33 n (rowW a))), (7, I m), (8, I (w64' (i + 1)))] [.dead, .dead, .rowi 3 .i64 xs]))) (IT (SS.mk [(3, .own 2), (6, .d (DV.sl 33 n (rowW a))), (7, I m), (8, I (w64' (i + 1)))] [.dead, .dead, .rowi 3 .i64 xs])))) none) (br (decide (List.length xs < 4611686018427387904)) (br (decide (List.length (sorted xs) ≤ 9223372036854775807) && true) (K (.own 2) [.dead, .dead, .rowi 3 .i64 (Lib.compact (sorted xs))]) none) none) := by kernel_rfl
end Gd
end Go.Sx.Pr
