/- Pieces of the code of functions, compiled for the symbolic interpreter, each checked against the program; no conditions. -/
import Derived.Test.YtibleafpbfbccaaV31
import Derived.Test.YtibleafpbfbccaaRows
import Derived.KernelRfl
import Derived.Test.YtibleafpbfbccaaV31
import Derived.Test.YtibleafpbfbccaaQ34
import Derived.Test.YtibleafpbfbccaaQ34
import Derived.Test.YtibleafpbfbccaaQ34
import Derived.Test.YtibleafpbfbccaaV31
import Derived.Test.YtibleafpbfbccaaV31
import Derived.Test.YtibleafpbfbccaaV31
set_option linter.all false
set_option linter.unusedVariables false
set_option linter.unusedSimpArgs false
set_option linter.unnecessarySimpa false
namespace Go.Sx.Pr
open Go Go.Sx Go.Proofs
set_option maxRecDepth 100000
def K1024_1 : CC := .seq (.reg false [⟨some 29, .mv (.t 1), none, 0⟩,
   ⟨some 30, .fa 0 (.t 3), none, 0⟩,
   ⟨some 31, .ld 1 false (.t 30), none, 0⟩,
   ⟨some 32, .bin .add (.c (.d (.v (.int .i64 3)))) (.t 31), none, 0⟩,
   ⟨some 33, .mv (.t 2), none, 0⟩,
   ⟨some 34, .bin .add (.t 32) (.t 33), none, 0⟩,
   ⟨some 35, .ixs 1 (.t 29) (.t 34), none, 0⟩,
   ⟨some 36, .ld 1 false (.t 35), none, 0⟩,
   ⟨some 6, .mv (.t 36), none, 0⟩,
   ⟨some 7, .mv (.c (.d (.v (.bool true)))), none, 0⟩])
 (.ret)
def K1024_2 : CC := .seq (.reg false [⟨some 8, .ld 8 true (.t 3), none, 0⟩,
   ⟨some 9, .call (.c (.fn (.func 20) [] [])) [.t 8], none, 0⟩,
   ⟨some 10, .eq .int true (.t 9) (.c (.d (.v (.int .i64 0)))), none, 0⟩,
   ⟨some 11, .mv (.t 10), none, 0⟩,
   ⟨some 12, .mv (.t 1), some (11, false), 0⟩,
   ⟨some 13, .len (.t 12), some (11, false), 0⟩,
   ⟨some 14, .ld 8 true (.t 3), some (11, false), 0⟩,
   ⟨some 15, .call (.c (.fn (.func 19) [] [])) [.t 14], some (11, false), 0⟩,
   ⟨some 16, .len (.t 15), some (11, false), 0⟩,
   ⟨some 17, .eq .int true (.t 13) (.t 16), some (11, false), 0⟩,
   ⟨some 18, .pick (.t 11) (.c (.d (.v (.bool true)))) (.t 17), none, 0⟩,
   ⟨some 19, .mv (.t 18), none, 0⟩,
   ⟨some 20, .mv (.t 2), some (19, false), 0⟩,
   ⟨some 21, .bin .lss (.t 20) (.c (.d (.v (.int .i64 0)))), some (19, false), 0⟩,
   ⟨some 22, .pick (.t 19) (.c (.d (.v (.bool true)))) (.t 21), none, 0⟩,
   ⟨some 23, .mv (.t 22), none, 0⟩,
   ⟨some 24, .mv (.t 2), some (23, false), 0⟩,
   ⟨some 25, .fa 1 (.t 3), some (23, false), 0⟩,
   ⟨some 26, .ld 1 false (.t 25), some (23, false), 0⟩,
   ⟨some 27, .bin .geq (.t 24) (.t 26), some (23, false), 0⟩,
   ⟨some 28, .pick (.t 23) (.c (.d (.v (.bool true)))) (.t 27), none, 0⟩])
 (.cond 28 (.seq (.reg false [⟨some 6, .mv (.c (.d (.v (.int .u64 0)))), none, 0⟩,
     ⟨some 7, .mv (.c (.d (.v (.bool false)))), none, 0⟩])
   (.ret))
   (.skip))
def K1024_3 : CC := .reg false [⟨some 3, .box 24 8 (.t 0), none, 0⟩,
   ⟨some 6, .mv (.c (.d (.v (.int .u64 0)))), none, 0⟩,
   ⟨some 7, .mv (.c (.d (.v (.bool false)))), none, 0⟩]
/-- coatcheck/coatcheckref08.Word -/
def C1024 : CF := ⟨3, [(6, none), (7, none)],
 .seq K1024_3 (.seq K1024_2 K1024_1)⟩
theorem c1024 : coF Try.prog Try.f7 = some C1024 := by kernel_rfl
def A1024 : Ann := { keep := [0, 1, 2, 3, 6, 7, 28], live := [] }
def E1024 {Ω : Type} : Env Ω := econs 20 S19 (econs 19 S20d (enil))
theorem e1024 : GoodE Try.prog E1024 := GoodE.cons g19 (GoodE.cons g20d (GoodE.nil))
end Go.Sx.Pr

/- Contracts: a slab's word, its state and number of parked blocks, program and document. -/
namespace Go.Sx.Pr
open Go Go.Sx Go.Sx.Md Go.Proofs
set_option maxRecDepth 100000

/-- A slab's word. -/
def wordV (c : Cf) (ws : List Int) (j : Int) : Int × Bool :=
  bif (chkC c == 0) && (((ws.length : Int) == szC c) && (decide (0 ≤ j) && decide (j < c.b))) then (ws.getD (3 + c.a + j).toNat 0, true) else (0, false)
theorem wordV_yes {c : Cf} {ws : List Int} {j : Int} (h0 : chkC c = 0) (h1 : (ws.length : Int) = szC c) (h2 : 0 ≤ j) (h3 : j < c.b) : wordV c ws j = (ws.getD (3 + c.a + j).toNat 0, true) := by
  unfold wordV; simp [h0, h1, h2, h3]
theorem wordV_no {c : Cf} {ws : List Int} {j : Int} (h : ¬ (chkC c = 0 ∧ (ws.length : Int) = szC c ∧ 0 ≤ j ∧ j < c.b)) : wordV c ws j = (0, false) := by
  unfold wordV
  cases e : (chkC c == 0) && (((ws.length : Int) == szC c) && (decide (0 ≤ j) && decide (j < c.b))) with
  | false => rfl
  | true =>
    simp only [Bool.and_eq_true, beq_iff_eq, decide_eq_true_eq] at e
    exact absurd e h
theorem n1024 {Ω : Type} (it : Itr Ω) (K : SV → SH → Option Ω) (c : Cf) (ws : List Int) (j : Int) :
    sxFnI it E1024 A1024 C1024 [.agg (encC c), .d (.ints .u64 ws), I j] [] K =
    br (!chkC c == 0) (K (.tup [U 0, B false]) [.cells 24 (encC c)]) (br (chkC c == 0) (br (! (↑ (List.length ws) : Int) == (↑ (sizeN (Int.toNat (Cf.a c)) (Int.toNat (Cf.b c)) (Int.toNat (Cf.c c)) (Int.toNat (Cf.d c)) (Int.toNat (Cf.e c))) : Int)) (K (.tup [U 0, B false]) [.cells 24 (encC c)]) (br (decide (j < 0)) (K (.tup [U 0, B false]) [.cells 24 (encC c)]) (br (decide (j ≥ Cf.b c)) (K (.tup [U 0, B false]) [.cells 24 (encC c)]) (br (inB (w64' (w64' (3 + Cf.a c) + j)) (List.length ws)) (K (.tup [U (List.getD ws (Int.toNat (w64' (w64' (3 + Cf.a c) + j))) 0), B true]) [.cells 24 (encC c)]) none)))) none) := by kernel_rfl
section
variable {c : Cf} {ws : List Int} {j : Int}
theorem v1024 (h : true = true) : GivesV (sxFn E1024 A1024 C1024 [.agg (encC c), .d (.ints .u64 ws), I j] [] KS) (.tup [U (wordV c ws j).1, B (wordV c ws j).2]) := by
  rw [← sxFnI_eq, n1024]
  have no : ¬ (chkC c = 0 ∧ (ws.length : Int) = szC c ∧ 0 ≤ j ∧ j < c.b) → ∀ H, GivesV (KS (.tup [U 0, B false]) H) (.tup [U (wordV c ws j).1, B (wordV c ws j).2]) := fun q H => by rw [wordV_no q]; exact givesV
  refine GivesV.br (fun h0 => no (by simp at h0; simp [h0]) _) fun h0 => ?_
  have h0 : chkC c = 0 := by simpa using h0
  have hs := szC_eq h0
  rw [h0, show ((0 : Int) == 0) = true from rfl, br_t, ← hs]
  refine GivesV.br (fun h1 => no (by simp at h1; simp [h1]) _) fun h1 => ?_
  have h1 : (ws.length : Int) = szC c := by simpa using h1
  refine GivesV.br (fun h2 => no (by simp at h2; omega) _) fun h2 => GivesV.br (fun h3 => no (by simp at h3; omega) _) fun h3 => ?_
  have h2 : 0 ≤ j := by simpa using h2
  have h3 : j < c.b := by simpa using h3
  obtain ⟨⟨a1, a2⟩, ⟨b1, b2⟩, _⟩ := chk_zero h0
  rw [show w64' (w64' (3 + c.a) + j) = 3 + c.a + j by rw [w64_id (x := 3 + c.a) (by omega) (by omega), w64_id (by omega) (by omega)], show inB (3 + c.a + j) ws.length = true by
        simp only [inB, Bool.and_eq_true, decide_eq_true_eq]
        unfold sizeN at hs; omega, br_t, wordV_yes h0 h1 h2 h3]
  exact givesV
end
def F1024v : List (List Int) → Option (Bool × SV × SH)
  | [[c_a, c_b, c_c, c_d, c_e, c_f, c_g, c_l], ws, [j]] => let c := (⟨c_a, c_b, c_c, c_d, c_e, c_f, c_g, c_l⟩ : Md.Cf); some (true, .tup [U (wordV c ws j).1, B (wordV c ws j).2], [])
  | _ => none
def S1024c {Ω : Type} : Spec Ω := conSpec [.g cfgK, .s .u64, .i .i64] F1024v
theorem g1024c : Good1 Try.prog 7 S1024c := conGood Try.func7 (by kernel_rfl) c1024 e1024 mix (A := A1024) fun L r hr hl hF => by
  obtain ⟨q0, l0, rfl, z0, hl1⟩ := lenAs_cons hl
  obtain ⟨c_a, c_b, c_c, c_d, c_e, c_f, c_g, c_l, rfl⟩ := eight z0
  obtain ⟨ws, l1, rfl, z1, hl2⟩ := lenAs_cons hl1
  obtain ⟨q2, l2, rfl, z2, hl3⟩ := lenAs_cons hl2
  obtain ⟨j, rfl⟩ := one_of' z2
  have hz := lenAs_nil hl3
  subst hz
  simp only [F1024v, Option.some.injEq, Prod.mk.injEq] at hF
  obtain ⟨hu, rfl, rfl⟩ := hF
  obtain ⟨H, hH⟩ := v1024 (c := (⟨c_a, c_b, c_c, c_d, c_e, c_f, c_g, c_l⟩ : Md.Cf)) (ws := ws) (j := j) (by first | exact hu | exact rfl)
  exact ⟨by first | exact trivial | exact ⟨trivial, trivial⟩ | exact ⟨trivial, trivial, trivial⟩ | exact ⟨trivial, trivial, trivial, trivial⟩, trivial, H, trim_none rfl _, hH⟩

end Go.Sx.Pr

namespace Go.Sx.Pr
open Go Go.Sx Go.Proofs
set_option maxRecDepth 100000
end Go.Sx.Pr

/- Taking from a free list and putting back, without interference. Plain Lean. -/
namespace Go.Sx.Pr
open Go Go.Sx Go.Sx.Md Go.Proofs

theorem listV_some {c : Cf} {ws : List Int} {en : Bool} {L : List Int} (h : listV c ws en = some L) : chkC c = 0 ∧ (ws.length : Int) = szC c ∧ Chain (nxtV c ws (kindL en)) (topV ws en) L ∧ L.Nodup ∧ (∀ i, i ∈ L → 0 ≤ i ∧ i < manyV c en) ∧ L.length ≤ 128 := by
  unfold listV at h
  cases e : (chkC c == 0) && ((ws.length : Int) == szC c) with
  | false => rw [e] at h; cases h
  | true =>
    rw [e, cond_true] at h
    simp only [Bool.and_eq_true, beq_iff_eq] at e
    obtain ⟨L', h1, h2, h3, h4⟩ := chain_chase (many := manyV c en) (fun i => nxt_lt.1) (by unfold topV; omega) (by simp) (by simp) h
    simp only [List.nil_append] at h1
    subst h1
    obtain ⟨m1, m2⟩ := many_le (en := en) e.1
    refine ⟨e.1, e.2, h2, h3, h4, ?_⟩
    have := nodup_le (E := (manyV c en).toNat) h3 (fun i hi => by have := h4 i hi; omega)
    omega

def headL (en : Bool) : Int := bif en then 2 else 1
def baseL (en : Bool) : Int := bif en then 20 else 10

/-- A memory of the right size. -/
structure MW (m : Mm) : Prop where
  ok : okM m = true
  sz : (m.ws.length : Int) = szC m.c
theorem MW.chk {m : Mm} (h : MW m) : chkC m.c = 0 := by
  have := h.ok
  simp only [okM, Bool.and_eq_true, beq_iff_eq] at this
  exact this.1
theorem MW.u {m : Mm} (h : MW m) : u64B m.ws = true := by
  have := h.ok
  simp only [okM, Bool.and_eq_true, beq_iff_eq] at this
  exact this.2
theorem MW.len {m : Mm} (h : MW m) : 3 ≤ m.ws.length := by
  have hs := szC_eq h.chk
  have := h.sz
  unfold sizeN at hs; omega
theorem ld_u {m : Mm} (h : u64B m.ws = true) (a : Int) : 0 ≤ mLoadV m a ∧ mLoadV m a ≤ 18446744073709551615 := by
  unfold mLoadV
  cases Mm.ok m a with
  | false => simp
  | true => exact uB_iff.1 (u64B_all h _)
theorem ld_get {m : Mm} {a : Int} (h : Mm.ok m a = true) : mLoadV m a = m.ws.getD a.toNat 0 := by
  unfold mLoadV; rw [h, cond_true]; rfl
theorem ok_nat {m : Mm} {k : Nat} (h : k < m.ws.length) : Mm.ok m (k : Int) = true := inB_of' (by omega) (by omega)
theorem top_ld {m : Mm} (h : MW m) (en : Bool) : topV m.ws en = mLoadV m (headL en) % 4294967296 := by
  have := h.len
  unfold topV
  cases en with
  | true =>
    have e := ld_get (m := m) (a := ((2 : Nat) : Int)) (ok_nat (by omega))
    show m.ws.getD 2 0 % 4294967296 = mLoadV m 2 % 4294967296
    rw [show mLoadV m 2 = m.ws.getD 2 0 from e]
  | false =>
    have e := ld_get (m := m) (a := ((1 : Nat) : Int)) (ok_nat (by omega))
    show m.ws.getD 1 0 % 4294967296 = mLoadV m 1 % 4294967296
    rw [show mLoadV m 1 = m.ws.getD 1 0 from e]
theorem nxt_ld {m : Mm} (h : MW m) {en : Bool} {i : Int} (h0 : 0 ≤ i) (h1 : i < manyV m.c en) : nxtV m.c m.ws (kindL en) i = mLoadV m (adr m.c (kindL en) i) % 4294967296 := by
  unfold nxtV
  rw [ld_get (show Mm.ok m (adr m.c (kindL en) i) = true from inBL h.chk h.sz h0 h1)]
theorem adr_in {c : Cf} (hc : chkC c = 0) {en : Bool} {i : Int} (h0 : 0 ≤ i) (h1 : i < manyV c en) : adr c (kindL en) i = bif en then 3 + c.a + c.b + 2 * i + 1 else 3 + c.a + c.b + 2 * c.e + (1 + c.d) * i := by
  cases en with
  | true => show atV c.a c.b c.c c.d c.e c.f c.g c.l 4 i 0 = _; rw [at4 hc]; exact if_pos ⟨h0, h1⟩
  | false => show atV c.a c.b c.c c.d c.e c.f c.g c.l 5 i 0 = _; rw [at5 hc]; exact if_pos ⟨h0, h1⟩
theorem adr_ne {c : Cf} (hc : chkC c = 0) {en : Bool} {i : Int} (h0 : 0 ≤ i) (h1 : i < manyV c en) : adr c (kindL en) i ≠ headL en := by
  rw [adr_in hc h0 h1]
  obtain ⟨⟨a1, a2⟩, ⟨b1, b2⟩, ⟨c1, c2⟩, ⟨d1, d2⟩, ⟨e1, e2⟩, _⟩ := chk_zero hc
  cases en with
  | true => show 3 + c.a + c.b + 2 * i + 1 ≠ 2; omega
  | false =>
    show 3 + c.a + c.b + 2 * c.e + (1 + c.d) * i ≠ 1
    have : 0 ≤ (1 + c.d) * i := Int.mul_nonneg (by omega) h0
    omega
theorem adr_inj {c : Cf} (hc : chkC c = 0) {en : Bool} {i j : Int} (h0 : 0 ≤ i) (h1 : i < manyV c en) (k0 : 0 ≤ j) (k1 : j < manyV c en) (e : adr c (kindL en) i = adr c (kindL en) j) : i = j := by
  rw [adr_in hc h0 h1, adr_in hc k0 k1] at e
  obtain ⟨⟨a1, a2⟩, ⟨b1, b2⟩, ⟨c1, c2⟩, ⟨d1, d2⟩, ⟨e1, e2⟩, _⟩ := chk_zero hc
  cases en with
  | true => simp only [cond_true] at e; omega
  | false =>
    simp only [cond_false] at e
    have : (1 + c.d) * i = (1 + c.d) * j := by omega
    exact Int.eq_of_mul_eq_mul_left (by omega) this

theorem listV_of {c : Cf} {ws : List Int} {en : Bool} {L : List Int} (h0 : chkC c = 0) (h1 : (ws.length : Int) = szC c) (hc : Chain (nxtV c ws (kindL en)) (topV ws en) L) (hd : L.Nodup) (hr : ∀ i, i ∈ L → 0 ≤ i ∧ i < manyV c en) : listV c ws en = some L := by
  unfold listV
  rw [h0, show ((0 : Int) == 0) = true from rfl, beq_iff_eq.2 h1, Bool.and_self, cond_true]
  obtain ⟨m1, m2⟩ := many_le (en := en) h0
  have hl := nodup_le (E := (manyV c en).toNat) hd (fun i hi => by have := hr i hi; omega)
  have := chase_chain (many := manyV c en) (f := (manyV c en).toNat + 1) (out := []) hc (by simpa using hd) hr (by omega)
  simpa using this

theorem MW.of {m m' : Mm} (h : MW m) (hc : m'.c = m.c) (hl : m'.ws.length = m.ws.length) (hok : okM m' = true) : MW m' := ⟨hok, by rw [hl, hc]; exact h.sz⟩

/-- The steps of one list. -/
theorem stepS_of {m : Mm} {x : Wk} (en : Bool) (k : Int) (hk : 0 ≤ k ∧ k ≤ 5) (hl : x.line = baseL en + k) : stepS m x = stepL (headL en) (kindL en) (baseL en) (w64' ((bif en then x.I else x.K) - 1)) m x := by
  unfold stepS
  cases en with
  | true =>
    have : x.line = 20 + k := hl
    rw [if_neg (by omega), if_pos (by omega)]; rfl
  | false =>
    have : x.line = 10 + k := hl
    rw [if_pos (by omega)]; rfl

section
variable {m : Mm} {en : Bool} {x : Wk}
theorem sL3 (hl : x.line = baseL en + 3) : stepS m x = ⟨mLoad m (headL en), { x with V := mLoadV m (headL en), line := baseL en + 4 }, 0, true⟩ := by
  rw [stepS_of en 3 (by omega) hl]
  unfold stepL
  rw [if_neg (by omega), if_neg (by omega), if_neg (by omega), if_pos hl]
theorem sL4 (hl : x.line = baseL en + 4) : stepS m x = ⟨mStore m (adr m.c (kindL en) (w64' ((bif en then x.I else x.K) - 1))) (x.V % 4294967296), { x with line := baseL en + 5 }, 0, true⟩ := by
  rw [stepS_of en 4 (by omega) hl]
  unfold stepL
  rw [if_neg (by omega), if_neg (by omega), if_neg (by omega), if_neg (by omega), if_pos hl]
theorem sL5 (hl : x.line = baseL en + 5) : stepS m x = bif mCasB m (headL en) x.V then ⟨mCas m (headL en) x.V (pHead (w64' ((bif en then x.I else x.K) - 1)) (x.V / 4294967296 + 1)), { x with line := 0 }, 1, true⟩ else ⟨mCas m (headL en) x.V (pHead (w64' ((bif en then x.I else x.K) - 1)) (x.V / 4294967296 + 1)), { x with line := baseL en + 3 }, 0, true⟩ := by
  rw [stepS_of en 5 (by omega) hl]
  unfold stepL
  rw [if_neg (by omega), if_neg (by omega), if_neg (by omega), if_neg (by omega), if_neg (by omega)]
end

theorem ok_head {m : Mm} (h : MW m) (en : Bool) : Mm.ok m (headL en) = true := by
  have := h.len
  cases en with
  | true => exact inB_of' (show (0 : Int) ≤ 2 by omega) (show (2 : Int) < m.ws.length by omega)
  | false => exact inB_of' (show (0 : Int) ≤ 1 by omega) (show (1 : Int) < m.ws.length by omega)

theorem pHead_div {p v : Int} (hv : 0 ≤ v) : pHead p v % 4294967296 = (p + 1) % 4294967296 ∧ pHead p v / 4294967296 = v % 4294967296 := by
  unfold pHead
  constructor <;> omega
end Go.Sx.Pr

/- Popping and pushing without interference: three steps each. Plain Lean. -/
namespace Go.Sx.Pr
open Go Go.Sx Go.Sx.Md Go.Proofs

theorem w64_nat {x : Int} (h0 : 0 ≤ x) (h1 : x ≤ 4294967296) : w64' x = x := w64_id (by omega) (by omega)

theorem push3 {m : Mm} {x : Wk} {en : Bool} {i : Int} {L : List Int} (h : MW m) (hx : okW x = true) (hl : x.line = baseL en + 3) (hi0 : 0 ≤ i) (hi1 : i < manyV m.c en) (hk : (bif en then x.I else x.K) = i + 1) (hL : listV m.c m.ws en = some L) (hn : i ∉ L) :
    (stepS m x).way = 0 ∧ (stepS (stepS m x).m (stepS m x).x).way = 0 ∧ (stepS (stepS (stepS m x).m (stepS m x).x).m (stepS (stepS m x).m (stepS m x).x).x).way = 1 ∧
    listV m.c (stepS (stepS (stepS m x).m (stepS m x).x).m (stepS (stepS m x).m (stepS m x).x).x).m.ws en = some (i :: L) ∧
    mLoadV (stepS (stepS (stepS m x).m (stepS m x).x).m (stepS (stepS m x).m (stepS m x).x).x).m (headL en) / 4294967296 = (mLoadV m (headL en) / 4294967296 + 1) % 4294967296 := by
  obtain ⟨f1, f2, f3, f4, f5, f6⟩ := listV_some hL
  obtain ⟨m1, m2⟩ := many_le (en := en) f1
  obtain ⟨p1, p2, _, p4, p5⟩ := presS h.ok hx
  have hw : w64' ((bif en then x.I else x.K) - 1) = i := by rw [hk, w64_nat (by omega) (by omega)]; omega
  have e1 : stepS m x = ⟨mLoad m (headL en), { x with V := mLoadV m (headL en), line := baseL en + 4 }, 0, true⟩ := sL3 hl
  obtain ⟨q1, q2, _, q4, q5⟩ := presS p1 p2
  have e2 : stepS (stepS m x).m (stepS m x).x = ⟨mStore (mLoad m (headL en)) (adr m.c (kindL en) i) (mLoadV m (headL en) % 4294967296), { x with V := mLoadV m (headL en), line := baseL en + 5 }, 0, true⟩ := by
    rw [e1, sL4 (en := en) rfl]
    simp only [hw]
    rfl
  obtain ⟨r1, r2, _, r4, r5⟩ := presS q1 q2
  have hne := adr_ne f1 (en := en) hi0 hi1
  have hok : Mm.ok (mLoad m (headL en)) (adr m.c (kindL en) i) = true := inBL f1 f2 hi0 hi1
  have lh : mLoadV (mStore (mLoad m (headL en)) (adr m.c (kindL en) i) (mLoadV m (headL en) % 4294967296)) (headL en) = mLoadV m (headL en) := by
    rw [ld_store, if_neg (fun q => hne q.2)]; rfl
  rw [e2] at r1 r4 r5 q1 q4
  have hokh : Mm.ok (mStore (mLoad m (headL en)) (adr m.c (kindL en) i) (mLoadV m (headL en) % 4294967296)) (headL en) = true := by
    have := ok_head h en
    unfold Mm.ok at this ⊢
    have hlen : (mStore (mLoad m (headL en)) (adr m.c (kindL en) i) (mLoadV m (headL en) % 4294967296)).ws.length = m.ws.length := by rw [q4, e1]; rfl
    rw [hlen]; exact this
  have hcas : mCasB (mStore (mLoad m (headL en)) (adr m.c (kindL en) i) (mLoadV m (headL en) % 4294967296)) (headL en) (mLoadV m (headL en)) = true := (casB_iff hokh).2 lh
  have e3 : stepS (mStore (mLoad m (headL en)) (adr m.c (kindL en) i) (mLoadV m (headL en) % 4294967296)) { x with V := mLoadV m (headL en), line := baseL en + 5 } =
      ⟨mCas (mStore (mLoad m (headL en)) (adr m.c (kindL en) i) (mLoadV m (headL en) % 4294967296)) (headL en) (mLoadV m (headL en)) (pHead i (mLoadV m (headL en) / 4294967296 + 1)), { x with V := mLoadV m (headL en), line := 0 }, 1, true⟩ := by
    rw [sL5 (en := en) rfl]
    simp only [hw]
    rw [hcas, cond_true]
  have hv := ld_u h.u (headL en)
  obtain ⟨v1, v2⟩ := @pHead_div i (mLoadV m (headL en) / 4294967296 + 1) (by omega)
  rw [e3] at r1 r4 r5
  refine ⟨by rw [e1], by rw [e2], by rw [e2, e3], ?_, ?_⟩
  · rw [e2, e3]
    have h3 : MW (mCas (mStore (mLoad m (headL en)) (adr m.c (kindL en) i) (mLoadV m (headL en) % 4294967296)) (headL en) (mLoadV m (headL en)) (pHead i (mLoadV m (headL en) / 4294967296 + 1))) := h.of rfl (by rw [r4, q4, e1]; rfl) r1
    have ld3 : ∀ b, b ≠ headL en → b ≠ adr m.c (kindL en) i → mLoadV (mCas (mStore (mLoad m (headL en)) (adr m.c (kindL en) i) (mLoadV m (headL en) % 4294967296)) (headL en) (mLoadV m (headL en)) (pHead i (mLoadV m (headL en) / 4294967296 + 1))) b = mLoadV m b := fun b hb hb2 => by
      rw [ld_cas, if_neg (fun q => hb q.2.symm), ld_store, if_neg (fun q => hb2 q.2.symm)]; rfl
    have ldi : mLoadV (mCas (mStore (mLoad m (headL en)) (adr m.c (kindL en) i) (mLoadV m (headL en) % 4294967296)) (headL en) (mLoadV m (headL en)) (pHead i (mLoadV m (headL en) / 4294967296 + 1))) (adr m.c (kindL en) i) = mLoadV m (headL en) % 4294967296 := by
      rw [ld_cas, if_neg (fun q => hne q.2.symm), ld_store, if_pos ⟨hok, rfl⟩]
    have ldh : mLoadV (mCas (mStore (mLoad m (headL en)) (adr m.c (kindL en) i) (mLoadV m (headL en) % 4294967296)) (headL en) (mLoadV m (headL en)) (pHead i (mLoadV m (headL en) / 4294967296 + 1))) (headL en) = pHead i (mLoadV m (headL en) / 4294967296 + 1) := by
      rw [ld_cas, if_pos ⟨hcas, rfl⟩]
    generalize hM : mCas (mStore (mLoad m (headL en)) (adr m.c (kindL en) i) (mLoadV m (headL en) % 4294967296)) (headL en) (mLoadV m (headL en)) (pHead i (mLoadV m (headL en) / 4294967296 + 1)) = M at *
    have hMc : M.c = m.c := by subst hM; rfl
    refine listV_of (c := m.c) f1 (by rw [← hMc]; exact h3.sz) ?_ (List.nodup_cons.2 ⟨hn, f4⟩) fun j hj => by
      rcases List.mem_cons.1 hj with rfl | hj
      · exact ⟨hi0, hi1⟩
      · exact f5 j hj
    rw [top_ld h3 en, ldh, v1, show (i + 1) % 4294967296 = i + 1 by omega]
    refine ⟨rfl, ?_⟩
    have ni := nxt_ld h3 (en := en) (i := i) hi0 (by rw [hMc]; exact hi1)
    rw [hMc] at ni
    rw [ni, ldi, show mLoadV m (headL en) % 4294967296 % 4294967296 = mLoadV m (headL en) % 4294967296 by omega]
    rw [top_ld h en] at f3
    refine f3.congr fun j hj => ?_
    have hj' := f5 j hj
    have a1 := nxt_ld h3 (en := en) (i := j) hj'.1 (by rw [hMc]; exact hj'.2)
    rw [hMc] at a1
    rw [a1, nxt_ld h hj'.1 hj'.2, ld3 _ (adr_ne f1 hj'.1 hj'.2) (fun e => hn (by have := adr_inj f1 hj'.1 hj'.2 hi0 hi1 e; subst this; exact hj))]
  · rw [e2, e3]
    show mLoadV (mCas _ _ _ _) (headL en) / 4294967296 = _
    rw [ld_cas, if_pos ⟨hcas, rfl⟩, v2]
end Go.Sx.Pr

/- StackTakes: the law answers true on symbolic arguments. -/
namespace Go.Sx.Pr
open Go Go.Sx Go.Sx.Md Go.Proofs
set_option maxRecDepth 100000
section
variable {c : Cf} {ws : List Int} {en : Bool} {m : Mm}
end

end Go.Sx.Pr

namespace Go.Sx.Pr
open Go Go.Sx Go.Proofs
set_option maxRecDepth 100000
/-- coatcheck/give.Owes -/
def C1040 : CF := ⟨1, [(2, none)],
 .seq (.reg false [⟨some 1, .box 43 33 (.t 0), none, 0⟩,
   ⟨some 2, .mv (.c (.d (.v (.slice none 0 0)))), none, 0⟩])
 (.seq (.seq (.reg false [⟨some 3, .fa 19 (.t 1), none, 0⟩,
   ⟨some 4, .ld 1 false (.t 3), none, 0⟩,
   ⟨some 5, .eq .int false (.t 4) (.c (.d (.v (.int .i64 0)))), none, 0⟩,
   ⟨some 6, .mv (.t 5), none, 0⟩,
   ⟨some 7, .fa 0 (.t 1), some (6, false), 0⟩,
   ⟨some 8, .ld 1 false (.t 7), some (6, false), 0⟩,
   ⟨some 9, .eq .int false (.t 8) (.c (.d (.v (.int .i64 31)))), some (6, false), 0⟩,
   ⟨some 10, .pick (.t 6) (.c (.d (.v (.bool true)))) (.t 9), none, 0⟩,
   ⟨some 11, .mv (.t 10), none, 0⟩,
   ⟨some 12, .fa 0 (.t 1), some (11, false), 0⟩,
   ⟨some 13, .ld 1 false (.t 12), some (11, false), 0⟩,
   ⟨some 14, .eq .int false (.t 13) (.c (.d (.v (.int .i64 32)))), some (11, false), 0⟩,
   ⟨some 15, .pick (.t 11) (.c (.d (.v (.bool true)))) (.t 14), none, 0⟩])
 (.cond 15 (.seq (.reg false [⟨some 16, .fa 17 (.t 1), none, 0⟩,
     ⟨some 17, .ld 1 false (.t 16), none, 0⟩,
     ⟨some 18, .call (.c (.fn (.func 28) [] [])) [.t 17], none, 0⟩,
     ⟨some 2, .mv (.t 18), none, 0⟩])
   (.ret))
   (.skip)))
 (.seq (.reg false [⟨some 19, .fa 19 (.t 1), none, 0⟩,
   ⟨some 20, .ld 1 false (.t 19), none, 0⟩,
   ⟨some 21, .bin .sub (.t 20) (.c (.d (.v (.int .i64 1)))), none, 0⟩,
   ⟨some 22, .bsl 3 1 1 [.d (.v (.int .i64 0))] [(0, 1, .t 21)], none, 0⟩,
   ⟨some 23, .fa 17 (.t 1), none, 0⟩,
   ⟨some 24, .ld 1 false (.t 23), none, 0⟩,
   ⟨some 25, .app 3 1 8 (some .i64) (.t 22) (.t 24), none, 0⟩,
   ⟨some 2, .mv (.t 25), none, 0⟩])
 (.ret)))⟩
theorem c1040 : coF Try.prog Try.f12 = some C1040 := by kernel_rfl
def A1040 : Ann := { keep := [0, 1, 2, 15], live := [] }
def E1040 {Ω : Type} : Env Ω := econs 28 S1076c (enil)
theorem e1040 : GoodE Try.prog E1040 := GoodE.cons g1076c (GoodE.nil)
def S1040 {Ω : Type} : Spec Ω := inl E1040 A1040 C1040 false
theorem g1040 : Good1 Try.prog 12 S1040 := Good1.inl e1040 mix Try.func12 (by kernel_rfl) c1040 A1040 false
def K1037_1 : CC := .seq (.reg false [⟨some 47, .mv (.t 5), none, 0⟩,
   ⟨some 48, .eq .int false (.t 47) (.c (.d (.v (.int .i64 1)))), none, 0⟩,
   ⟨some 49, .mv (.t 48), none, 0⟩,
   ⟨some 50, .mv (.t 6), some (49, true), 0⟩,
   ⟨some 51, .eq .int false (.t 50) (.c (.d (.v (.int .i64 5)))), some (49, true), 0⟩,
   ⟨some 52, .pick (.t 49) (.t 51) (.c (.d (.v (.bool false)))), none, 0⟩,
   ⟨some 53, .mv (.t 52), none, 0⟩,
   ⟨some 54, .fa 10 (.t 4), some (53, true), 0⟩,
   ⟨some 55, .ld 1 false (.t 54), some (53, true), 0⟩,
   ⟨some 56, .bsl 3 1 1 [.d (.v (.int .i64 0))] [(0, 1, .c (.d (.v (.int .i64 0))))], some (53, true), 0⟩,
   ⟨some 57, .call (.c (.fn (.func 11) [] [])) [.t 55, .t 56], some (53, true), 0⟩,
   ⟨some 58, .pick (.t 53) (.t 57) (.c (.d (.v (.bool false)))), none, 0⟩,
   ⟨some 0, .mv (.t 58), none, 0⟩])
 (.ret)
def L1037_2 : CC := .seq (.seq (.reg false [⟨some 32, .mv (.t 6), none, 0⟩,
   ⟨some 33, .bin .lss (.t 32) (.c (.d (.v (.int .i64 9)))), none, 0⟩,
   ⟨some 34, .mv (.t 33), none, 0⟩,
   ⟨some 35, .mv (.t 5), some (34, true), 0⟩,
   ⟨some 36, .eq .int false (.t 35) (.c (.d (.v (.int .i64 0)))), some (34, true), 0⟩,
   ⟨some 37, .pick (.t 34) (.t 36) (.c (.d (.v (.bool false)))), none, 0⟩])
 (.cond 37 (.skip)
   (.exit 0)))
 (.seq (.block 1 (.reg false [⟨some 41, .mv (.t 2), none, 0⟩,
     ⟨some 42, .ld 33 true (.t 4), none, 0⟩,
     ⟨some 43, .call (.c (.fn (.func 9) [] [])) [.t 41, .t 42], none, 0⟩,
     ⟨some 40, .mv (.t 43), none, 0⟩,
     ⟨some 44, .ext 0 (.t 40), none, 0⟩,
     ⟨some 45, .ext 1 (.t 40), none, 0⟩,
     ⟨some 46, .ext 2 (.t 40), none, 0⟩,
     ⟨none, .st 33 (.t 4) (.t 44), none, 0⟩,
     ⟨some 5, .mv (.t 45), none, 0⟩]))
 (.reg false [⟨some 38, .mv (.t 6), none, 0⟩,
   ⟨some 39, .bin .add (.t 38) (.c (.d (.v (.int .i64 1)))), none, 0⟩,
   ⟨some 6, .mv (.t 39), none, 0⟩]))
def K1037_3 : CC := .reg false [⟨some 6, .mv (.c (.d (.v (.int .i64 0)))), none, 0⟩]
def K1037_4 : CC := .reg false [⟨some 27, .bsl 3 1 2 [.d (.v (.int .i64 0))] [(0, 1, .c (.d (.v (.int .i64 0)))), (1, 1, .c (.d (.v (.int .i64 1))))], none, 0⟩,
   ⟨some 28, .bld [.d (.v (.int .i64 0)), .d (.v (.int .i64 0)), .d (.v (.int .u64 0)), .d (.v (.int .u64 0)), .d (.v (.int .i64 0)), .d (.v (.bool false)), .d (.v (.int .i64 0)), .d (.v (.int .i64 0)), .d (.v (.bool false)), .d (.v (.int .u64 0)), .d (.v (.slice none 0 0)), .d (.v (.int .u64 0)), .d (.v (.slice none 0 0)), .d (.v (.int .u64 0)), .d (.v (.slice none 0 0)), .d (.v (.int .u64 0)), .d (.v (.slice none 0 0)), .d (.v (.slice none 0 0)), .d (.v (.int .i64 0)), .d (.v (.int .i64 0)), .d (.v (.int .i64 0)), .d (.v (.int .i64 0)), .d (.v (.int .i64 0)), .d (.v (.int .u64 0)), .d (.v (.int .u64 0)), .d (.v (.int .u64 0)), .d (.v (.int .u64 0)), .d (.v (.int .u64 0)), .d (.v (.int .i64 0)), .d (.v (.slice none 0 0)), .d (.v (.int .u64 0)), .d (.v (.int .i64 0)), .d (.v (.bool false))] [(17, 1, .t 27)], none, 0⟩,
   ⟨some 29, .call (.c (.fn (.func 8) [] [])) [.t 28], none, 0⟩,
   ⟨some 26, .mv (.t 29), none, 0⟩,
   ⟨some 30, .ext 0 (.t 26), none, 0⟩,
   ⟨some 31, .ext 1 (.t 26), none, 0⟩,
   ⟨some 4, .newc 43 [.d (.v (.int .i64 0)), .d (.v (.int .i64 0)), .d (.v (.int .u64 0)), .d (.v (.int .u64 0)), .d (.v (.int .i64 0)), .d (.v (.bool false)), .d (.v (.int .i64 0)), .d (.v (.int .i64 0)), .d (.v (.bool false)), .d (.v (.int .u64 0)), .d (.v (.slice none 0 0)), .d (.v (.int .u64 0)), .d (.v (.slice none 0 0)), .d (.v (.int .u64 0)), .d (.v (.slice none 0 0)), .d (.v (.int .u64 0)), .d (.v (.slice none 0 0)), .d (.v (.slice none 0 0)), .d (.v (.int .i64 0)), .d (.v (.int .i64 0)), .d (.v (.int .i64 0)), .d (.v (.int .i64 0)), .d (.v (.int .i64 0)), .d (.v (.int .u64 0)), .d (.v (.int .u64 0)), .d (.v (.int .u64 0)), .d (.v (.int .u64 0)), .d (.v (.int .u64 0)), .d (.v (.int .i64 0)), .d (.v (.slice none 0 0)), .d (.v (.int .u64 0)), .d (.v (.int .i64 0)), .d (.v (.bool false))], none, 0⟩,
   ⟨none, .st 33 (.t 4) (.t 30), none, 0⟩,
   ⟨some 5, .mv (.t 31), none, 0⟩]
def K1037_5 : CC := .reg false [⟨some 19, .mv (.t 2), none, 0⟩,
   ⟨some 20, .mv (.t 2), none, 0⟩,
   ⟨some 21, .nilc (.t 20), none, 0⟩,
   ⟨some 22, .fa 0 (.t 21), none, 0⟩,
   ⟨some 23, .ld 8 true (.t 22), none, 0⟩,
   ⟨some 24, .call (.c (.fn (.func 15) [] [])) [.t 23, .c (.d (.v (.int .i64 0)))], none, 0⟩,
   ⟨some 25, .call (.c (.fn (.func 14) [] [])) [.t 19, .t 24, .c (.d (.v (.int .u64 1)))], none, 0⟩]
def K1037_6 : CC := .seq (.reg false [⟨some 13, .mv (.t 3), none, 0⟩,
   ⟨some 14, .eq .int true (.t 13) (.c (.d (.v (.int .i64 0)))), none, 0⟩,
   ⟨some 15, .mv (.t 14), none, 0⟩,
   ⟨some 16, .mv (.t 2), some (15, false), 0⟩,
   ⟨some 17, .eq .ptr false (.t 16) (.c (.d (.v (.pointer none)))), some (15, false), 0⟩,
   ⟨some 18, .pick (.t 15) (.c (.d (.v (.bool true)))) (.t 17), none, 0⟩])
 (.cond 18 (.seq (.reg false [⟨some 0, .mv (.c (.d (.v (.bool false)))), none, 0⟩])
   (.ret))
   (.skip))
def K1037_7 : CC := .reg false [⟨some 9, .ld 8 true (.t 1), none, 0⟩,
   ⟨some 10, .call (.c (.fn (.func 13) [] [])) [.t 9], none, 0⟩,
   ⟨some 8, .mv (.t 10), none, 0⟩,
   ⟨some 11, .ext 0 (.t 8), none, 0⟩,
   ⟨some 12, .ext 1 (.t 8), none, 0⟩,
   ⟨some 2, .mv (.t 11), none, 0⟩,
   ⟨some 3, .mv (.t 12), none, 0⟩]
def K1037_8 : CC := .reg false [⟨some 7, .bld [.d (.v (.int .i64 0)), .d (.v (.int .i64 0)), .d (.v (.int .i64 0)), .d (.v (.int .i64 0)), .d (.v (.int .i64 0)), .d (.v (.int .i64 0)), .d (.v (.int .i64 0)), .d (.v (.int .u64 0))] [(0, 1, .c (.d (.v (.int .i64 1)))), (1, 1, .c (.d (.v (.int .i64 1)))), (2, 1, .c (.d (.v (.int .i64 2)))), (3, 1, .c (.d (.v (.int .i64 1)))), (4, 1, .c (.d (.v (.int .i64 1)))), (5, 1, .c (.d (.v (.int .i64 1)))), (6, 1, .c (.d (.v (.int .i64 1)))), (7, 1, .c (.d (.v (.int .u64 1))))], none, 0⟩,
   ⟨some 1, .newc 24 [.d (.v (.int .i64 0)), .d (.v (.int .i64 0)), .d (.v (.int .i64 0)), .d (.v (.int .i64 0)), .d (.v (.int .i64 0)), .d (.v (.int .i64 0)), .d (.v (.int .i64 0)), .d (.v (.int .u64 0))], none, 0⟩,
   ⟨none, .st 8 (.t 1) (.t 7), none, 0⟩]
def K1037_9 : CC := .reg false [⟨some 0, .mv (.c (.d (.v (.bool false)))), none, 0⟩]
/-- coatcheck/coatchecklaw10.awake -/
def C1037 : CF := ⟨0, [(0, none)],
 .seq K1037_9 (.seq K1037_8 (.seq K1037_7 (.seq K1037_6 (.seq K1037_5 (.seq K1037_4 (.seq K1037_3 (.seq (.block 0 (.loop L1037_2)) K1037_1)))))))⟩
theorem c1037 : coF Try.prog Try.f4 = some C1037 := by kernel_rfl
def A1037 : Ann := { keep := [0, 1, 2, 3, 4, 5, 6, 18, 37], live := [(0, [2, 4, 5, 6])] }
def E1037 {Ω : Type} : Env Ω := econs 8 S1038z (econs 9 S1039m (econs 11 S52 (econs 13 S34c (econs 14 S23m (econs 15 S95 (enil))))))
theorem e1037 : GoodE Try.prog E1037 := GoodE.cons g1038z (GoodE.cons g1039m (GoodE.cons g52 (GoodE.cons g34c (GoodE.cons g23m (GoodE.cons g95 (GoodE.nil))))))
def S1037 {Ω : Type} : Spec Ω := conSpec [] FTrue
theorem g1037 : Good1 Try.prog 4 S1037 := trueGood Try.func4 (by kernel_rfl) c1037 (A := A1037) e1037 mix (by kernel_rfl)
def K1008_1 : CC := .seq (.reg false [⟨some 6, .mv (.c (.d (.v (.bool true)))), none, 0⟩])
 (.ret)
def K1008_2 : CC := .reg false [⟨some 269, .mv (.t 31), none, 0⟩,
   ⟨some 270, .bin .add (.t 269) (.c (.d (.v (.int .i64 1)))), none, 0⟩,
   ⟨some 31, .mv (.t 270), none, 0⟩]
def K1008_3 : CC := .seq (.reg true [⟨some 279, .mv (.t 17), none, 0⟩,
   ⟨some 280, .mv (.t 31), none, 0⟩,
   ⟨some 281, .ixs 1 (.t 279) (.t 280), none, 3⟩,
   ⟨some 282, .ld 1 false (.t 281), none, 7⟩,
   ⟨some 283, .bin .gtr (.t 282) (.c (.d (.v (.int .i64 0)))), none, 15⟩,
   ⟨some 284, .mv (.t 283), none, 31⟩,
   ⟨some 285, .mv (.t 32), some (284, true), 63⟩,
   ⟨some 286, .bin .quo (.t 285) (.c (.d (.v (.int .u64 16)))), some (284, true), 127⟩,
   ⟨some 287, .bin .rem (.t 286) (.c (.d (.v (.int .u64 4096)))), some (284, true), 255⟩,
   ⟨some 288, .conv .i64 (.t 287), some (284, true), 511⟩,
   ⟨some 289, .fa 2 (.t 3), some (284, true), 63⟩,
   ⟨some 290, .ld 1 false (.t 289), some (284, true), 1087⟩,
   ⟨some 291, .mv (.t 17), some (284, true), 63⟩,
   ⟨some 292, .mv (.t 31), some (284, true), 63⟩,
   ⟨some 293, .ixs 1 (.t 291) (.t 292), some (284, true), 12351⟩,
   ⟨some 294, .ld 1 false (.t 293), some (284, true), 28735⟩,
   ⟨some 295, .bin .sub (.t 290) (.t 294), some (284, true), 64575⟩,
   ⟨some 296, .eq .int true (.t 288) (.t 295), some (284, true), 131071⟩,
   ⟨some 297, .pick (.t 284) (.t 296) (.c (.d (.v (.bool false)))), none, 262143⟩,
   ⟨some 298, .mv (.t 297), none, 524287⟩,
   ⟨some 299, .mv (.t 17), some (298, false), 1048575⟩,
   ⟨some 300, .mv (.t 31), some (298, false), 1048575⟩,
   ⟨some 301, .ixs 1 (.t 299) (.t 300), some (298, false), 4194303⟩,
   ⟨some 302, .ld 1 false (.t 301), some (298, false), 8388607⟩,
   ⟨some 303, .eq .int false (.t 302) (.c (.d (.v (.int .i64 0)))), some (298, false), 16777215⟩,
   ⟨some 304, .mv (.t 303), some (298, false), 33554431⟩,
   ⟨some 305, .mv (.t 32), some (304, true), 67108863⟩,
   ⟨some 306, .bin .rem (.t 305) (.c (.d (.v (.int .u64 16)))), some (304, true), 134217727⟩,
   ⟨some 307, .eq .int true (.t 306) (.c (.d (.v (.int .u64 3)))), some (304, true), 268435455⟩,
   ⟨some 308, .pick (.t 304) (.t 307) (.c (.d (.v (.bool false)))), some (298, false), 536870911⟩,
   ⟨some 309, .pick (.t 298) (.c (.d (.v (.bool true)))) (.t 308), none, 1073741823⟩])
 (.cond 309 (.seq (.reg false [⟨some 6, .mv (.c (.d (.v (.bool false)))), none, 0⟩])
   (.ret))
   (.skip))
def K1008_4 : CC := .reg true [⟨some 272, .ld 8 true (.t 3), none, 0⟩,
   ⟨some 273, .mv (.t 7), none, 0⟩,
   ⟨some 274, .call (.c (.fn (.func 10) [] [])) [.t 273], none, 2⟩,
   ⟨some 275, .mv (.t 31), none, 0⟩,
   ⟨some 276, .call (.c (.fn (.func 7) [] [])) [.t 272, .t 274, .t 275], none, 15⟩,
   ⟨some 271, .mv (.t 276), none, 31⟩,
   ⟨some 277, .ext 0 (.t 271), none, 63⟩,
   ⟨some 278, .ext 1 (.t 271), none, 63⟩,
   ⟨some 32, .mv (.t 277), none, 127⟩,
   ⟨some 33, .mv (.t 278), none, 511⟩]
def K1008_5 : CC := .seq (.reg false [⟨some 265, .mv (.t 31), none, 0⟩,
   ⟨some 266, .fa 1 (.t 3), none, 0⟩,
   ⟨some 267, .ld 1 false (.t 266), none, 0⟩,
   ⟨some 268, .bin .lss (.t 265) (.t 267), none, 0⟩])
 (.cond 268 (.skip)
   (.exit 13))
def L1008_6 : CC := .seq K1008_5 (.seq (.block 14 (.seq K1008_4 K1008_3)) K1008_2)
def K1008_7 : CC := .reg false [⟨some 31, .mv (.c (.d (.v (.int .i64 0)))), none, 0⟩]
def K1008_8 : CC := .seq (.reg false [⟨some 240, .mv (.t 24), none, 0⟩,
   ⟨some 241, .eq .int true (.t 240) (.c (.d (.v (.int .i64 1)))), none, 0⟩,
   ⟨some 242, .mv (.t 241), none, 0⟩,
   ⟨some 243, .mv (.t 30), some (242, false), 0⟩,
   ⟨some 244, .un .not (.t 243), some (242, false), 0⟩,
   ⟨some 245, .pick (.t 242) (.c (.d (.v (.bool true)))) (.t 244), none, 0⟩,
   ⟨some 246, .mv (.t 245), none, 0⟩,
   ⟨some 247, .mv (.t 29), some (246, false), 0⟩,
   ⟨some 248, .mv (.t 16), some (246, false), 0⟩,
   ⟨some 249, .call (.c (.fn (.func 11) [] [])) [.t 247, .t 248], some (246, false), 0⟩,
   ⟨some 250, .un .not (.t 249), some (246, false), 0⟩,
   ⟨some 251, .pick (.t 246) (.c (.d (.v (.bool true)))) (.t 250), none, 0⟩,
   ⟨some 252, .mv (.t 251), none, 0⟩,
   ⟨some 253, .fa 10 (.t 23), some (252, false), 0⟩,
   ⟨some 254, .ld 1 false (.t 253), some (252, false), 0⟩,
   ⟨some 255, .mv (.t 15), some (252, false), 0⟩,
   ⟨some 256, .call (.c (.fn (.func 11) [] [])) [.t 254, .t 255], some (252, false), 0⟩,
   ⟨some 257, .un .not (.t 256), some (252, false), 0⟩,
   ⟨some 258, .pick (.t 252) (.c (.d (.v (.bool true)))) (.t 257), none, 0⟩,
   ⟨some 259, .mv (.t 258), none, 0⟩,
   ⟨some 260, .ld 33 true (.t 23), some (259, false), 0⟩,
   ⟨some 261, .call (.c (.fn (.func 12) [] [])) [.t 260], some (259, false), 0⟩,
   ⟨some 262, .len (.t 261), some (259, false), 0⟩,
   ⟨some 263, .eq .int true (.t 262) (.c (.d (.v (.int .i64 0)))), some (259, false), 0⟩,
   ⟨some 264, .pick (.t 259) (.c (.d (.v (.bool true)))) (.t 263), none, 0⟩])
 (.cond 264 (.seq (.reg false [⟨some 6, .mv (.c (.d (.v (.bool false)))), none, 0⟩])
   (.ret))
   (.skip))
def K1008_9 : CC := .reg true [⟨some 234, .ld 8 true (.t 3), none, 0⟩,
   ⟨some 235, .mv (.t 7), none, 0⟩,
   ⟨some 236, .call (.c (.fn (.func 10) [] [])) [.t 235], none, 2⟩,
   ⟨some 237, .call (.c (.fn (.func 6) [] [])) [.t 234, .t 236, .c (.d (.v (.bool false)))], none, 7⟩,
   ⟨some 233, .mv (.t 237), none, 15⟩,
   ⟨some 238, .ext 0 (.t 233), none, 31⟩,
   ⟨some 239, .ext 1 (.t 233), none, 31⟩,
   ⟨some 29, .mv (.t 238), none, 63⟩,
   ⟨some 30, .mv (.t 239), none, 255⟩]
def L1008_10 : CC := .seq (.seq (.reg false [⟨some 211, .mv (.t 25), none, 0⟩,
   ⟨some 212, .mv (.t 2), none, 0⟩,
   ⟨some 213, .len (.t 212), none, 0⟩,
   ⟨some 214, .bin .mul (.c (.d (.v (.int .i64 4)))) (.t 213), none, 0⟩,
   ⟨some 215, .bin .lss (.t 211) (.t 214), none, 0⟩,
   ⟨some 216, .mv (.t 215), none, 0⟩,
   ⟨some 217, .mv (.t 24), some (216, true), 0⟩,
   ⟨some 218, .eq .int false (.t 217) (.c (.d (.v (.int .i64 0)))), some (216, true), 0⟩,
   ⟨some 219, .pick (.t 216) (.t 218) (.c (.d (.v (.bool false)))), none, 0⟩])
 (.cond 219 (.skip)
   (.exit 11)))
 (.seq (.block 12 (.seq (.reg false [⟨some 223, .mv (.t 7), none, 0⟩,
     ⟨some 224, .ld 33 true (.t 23), none, 0⟩,
     ⟨some 225, .call (.c (.fn (.func 9) [] [])) [.t 223, .t 224], none, 0⟩,
     ⟨some 222, .mv (.t 225), none, 0⟩,
     ⟨some 226, .ext 0 (.t 222), none, 0⟩,
     ⟨some 227, .ext 1 (.t 222), none, 0⟩,
     ⟨some 228, .ext 2 (.t 222), none, 0⟩,
     ⟨some 26, .newc 43 [.d (.v (.int .i64 0)), .d (.v (.int .i64 0)), .d (.v (.int .u64 0)), .d (.v (.int .u64 0)), .d (.v (.int .i64 0)), .d (.v (.bool false)), .d (.v (.int .i64 0)), .d (.v (.int .i64 0)), .d (.v (.bool false)), .d (.v (.int .u64 0)), .d (.v (.slice none 0 0)), .d (.v (.int .u64 0)), .d (.v (.slice none 0 0)), .d (.v (.int .u64 0)), .d (.v (.slice none 0 0)), .d (.v (.int .u64 0)), .d (.v (.slice none 0 0)), .d (.v (.slice none 0 0)), .d (.v (.int .i64 0)), .d (.v (.int .i64 0)), .d (.v (.int .i64 0)), .d (.v (.int .i64 0)), .d (.v (.int .i64 0)), .d (.v (.int .u64 0)), .d (.v (.int .u64 0)), .d (.v (.int .u64 0)), .d (.v (.int .u64 0)), .d (.v (.int .u64 0)), .d (.v (.int .i64 0)), .d (.v (.slice none 0 0)), .d (.v (.int .u64 0)), .d (.v (.int .i64 0)), .d (.v (.bool false))], none, 0⟩,
     ⟨none, .st 33 (.t 26) (.t 226), none, 0⟩,
     ⟨some 27, .mv (.t 227), none, 0⟩,
     ⟨some 28, .mv (.t 228), none, 0⟩])
   (.seq (.seq (.reg false [⟨some 229, .mv (.t 28), none, 0⟩,
     ⟨some 230, .un .not (.t 229), none, 0⟩])
   (.cond 230 (.seq (.reg false [⟨some 6, .mv (.c (.d (.v (.bool false)))), none, 0⟩])
     (.ret))
     (.skip)))
   (.reg false [⟨some 231, .ld 33 true (.t 26), none, 0⟩,
     ⟨some 232, .mv (.t 27), none, 0⟩,
     ⟨none, .st 33 (.t 23) (.t 231), none, 0⟩,
     ⟨some 24, .mv (.t 232), none, 0⟩]))))
 (.reg false [⟨some 220, .mv (.t 25), none, 0⟩,
   ⟨some 221, .bin .add (.t 220) (.c (.d (.v (.int .i64 1)))), none, 0⟩,
   ⟨some 25, .mv (.t 221), none, 0⟩]))
def K1008_11 : CC := .reg false [⟨some 25, .mv (.c (.d (.v (.int .i64 0)))), none, 0⟩]
def K1008_12 : CC := .reg false [⟨some 204, .bsl 3 1 0 [.d (.v (.int .i64 0))] [], none, 0⟩,
   ⟨some 205, .mv (.t 2), none, 0⟩,
   ⟨some 206, .app 3 1 8 (some .i64) (.t 204) (.t 205), none, 0⟩,
   ⟨some 207, .bld [.d (.v (.int .i64 0)), .d (.v (.int .i64 0)), .d (.v (.int .u64 0)), .d (.v (.int .u64 0)), .d (.v (.int .i64 0)), .d (.v (.bool false)), .d (.v (.int .i64 0)), .d (.v (.int .i64 0)), .d (.v (.bool false)), .d (.v (.int .u64 0)), .d (.v (.slice none 0 0)), .d (.v (.int .u64 0)), .d (.v (.slice none 0 0)), .d (.v (.int .u64 0)), .d (.v (.slice none 0 0)), .d (.v (.int .u64 0)), .d (.v (.slice none 0 0)), .d (.v (.slice none 0 0)), .d (.v (.int .i64 0)), .d (.v (.int .i64 0)), .d (.v (.int .i64 0)), .d (.v (.int .i64 0)), .d (.v (.int .i64 0)), .d (.v (.int .u64 0)), .d (.v (.int .u64 0)), .d (.v (.int .u64 0)), .d (.v (.int .u64 0)), .d (.v (.int .u64 0)), .d (.v (.int .i64 0)), .d (.v (.slice none 0 0)), .d (.v (.int .u64 0)), .d (.v (.int .i64 0)), .d (.v (.bool false))] [(17, 1, .t 206)], none, 0⟩,
   ⟨some 208, .call (.c (.fn (.func 8) [] [])) [.t 207], none, 0⟩,
   ⟨some 203, .mv (.t 208), none, 0⟩,
   ⟨some 209, .ext 0 (.t 203), none, 0⟩,
   ⟨some 210, .ext 1 (.t 203), none, 0⟩,
   ⟨some 23, .newc 43 [.d (.v (.int .i64 0)), .d (.v (.int .i64 0)), .d (.v (.int .u64 0)), .d (.v (.int .u64 0)), .d (.v (.int .i64 0)), .d (.v (.bool false)), .d (.v (.int .i64 0)), .d (.v (.int .i64 0)), .d (.v (.bool false)), .d (.v (.int .u64 0)), .d (.v (.slice none 0 0)), .d (.v (.int .u64 0)), .d (.v (.slice none 0 0)), .d (.v (.int .u64 0)), .d (.v (.slice none 0 0)), .d (.v (.int .u64 0)), .d (.v (.slice none 0 0)), .d (.v (.slice none 0 0)), .d (.v (.int .i64 0)), .d (.v (.int .i64 0)), .d (.v (.int .i64 0)), .d (.v (.int .i64 0)), .d (.v (.int .i64 0)), .d (.v (.int .u64 0)), .d (.v (.int .u64 0)), .d (.v (.int .u64 0)), .d (.v (.int .u64 0)), .d (.v (.int .u64 0)), .d (.v (.int .i64 0)), .d (.v (.slice none 0 0)), .d (.v (.int .u64 0)), .d (.v (.int .i64 0)), .d (.v (.bool false))], none, 0⟩,
   ⟨none, .st 33 (.t 23) (.t 209), none, 0⟩,
   ⟨some 24, .mv (.t 210), none, 0⟩]
def K1008_13 : CC := .reg false [⟨some 156, .mv (.t 21), none, 0⟩,
   ⟨some 157, .bin .add (.t 156) (.c (.d (.v (.int .i64 1)))), none, 0⟩,
   ⟨some 21, .mv (.t 157), none, 0⟩]
def K1008_14 : CC := .cond 172 (.seq (.reg false [⟨some 6, .mv (.c (.d (.v (.bool true)))), none, 0⟩])
   (.ret))
   (.seq (.reg false [⟨some 179, .mv (.t 17), none, 0⟩,
     ⟨some 180, .mv (.t 22), none, 0⟩,
     ⟨some 181, .ixs 1 (.t 179) (.t 180), none, 0⟩,
     ⟨some 182, .ld 1 false (.t 181), none, 0⟩,
     ⟨some 183, .bin .gtr (.t 182) (.c (.d (.v (.int .i64 0)))), none, 0⟩,
     ⟨some 178, .mv (.t 183), none, 0⟩])
   (.cond 178 (.reg false [⟨some 184, .mv (.t 17), none, 0⟩,
       ⟨some 185, .mv (.t 22), none, 0⟩,
       ⟨some 186, .ixs 1 (.t 184) (.t 185), none, 0⟩,
       ⟨some 187, .ld 1 false (.t 186), none, 0⟩,
       ⟨some 188, .bin .sub (.t 187) (.c (.d (.v (.int .i64 1)))), none, 0⟩,
       ⟨some 189, .ixs 1 (.t 184) (.t 185), none, 0⟩,
       ⟨none, .st 1 (.t 189) (.t 188), none, 0⟩])
     (.seq (.reg false [⟨some 191, .mv (.t 15), none, 0⟩,
       ⟨some 192, .len (.t 191), none, 0⟩,
       ⟨some 193, .fa 5 (.t 3), none, 0⟩,
       ⟨some 194, .ld 1 false (.t 193), none, 0⟩,
       ⟨some 195, .bin .lss (.t 192) (.t 194), none, 0⟩,
       ⟨some 190, .mv (.t 195), none, 0⟩])
     (.cond 190 (.reg false [⟨some 196, .mv (.t 15), none, 0⟩,
         ⟨some 197, .mv (.t 2), none, 0⟩,
         ⟨some 198, .mv (.t 21), none, 0⟩,
         ⟨some 199, .ixs 1 (.t 197) (.t 198), none, 0⟩,
         ⟨some 200, .ld 1 false (.t 199), none, 0⟩,
         ⟨some 201, .bsl 3 1 1 [.d (.v (.int .i64 0))] [(0, 1, .t 200)], none, 0⟩,
         ⟨some 202, .app 3 1 8 (some .i64) (.t 196) (.t 201), none, 0⟩,
         ⟨some 15, .mv (.t 202), none, 0⟩])
       (.reg false [⟨some 165, .mv (.t 2), none, 0⟩,
         ⟨some 166, .mv (.t 21), none, 0⟩,
         ⟨some 167, .ixs 1 (.t 165) (.t 166), none, 0⟩,
         ⟨some 168, .ld 1 false (.t 167), none, 0⟩,
         ⟨some 169, .bsl 3 1 1 [.d (.v (.int .i64 0))] [(0, 1, .t 168)], none, 0⟩,
         ⟨some 170, .mv (.t 16), none, 0⟩,
         ⟨some 171, .app 3 1 8 (some .i64) (.t 169) (.t 170), none, 0⟩,
         ⟨some 16, .mv (.t 171), none, 0⟩])))))
def K1008_15 : CC := .reg false [⟨some 173, .mv (.t 17), none, 0⟩,
   ⟨some 174, .mv (.t 22), none, 0⟩,
   ⟨some 175, .ixs 1 (.t 173) (.t 174), none, 0⟩,
   ⟨some 176, .ld 1 false (.t 175), none, 0⟩,
   ⟨some 177, .eq .int false (.t 176) (.c (.d (.v (.int .i64 0)))), none, 0⟩,
   ⟨some 172, .mv (.t 177), none, 0⟩]
def K1008_16 : CC := .reg true [⟨some 158, .mv (.t 2), none, 0⟩,
   ⟨some 159, .mv (.t 21), none, 0⟩,
   ⟨some 160, .ixs 1 (.t 158) (.t 159), none, 3⟩,
   ⟨some 161, .ld 1 false (.t 160), none, 7⟩,
   ⟨some 162, .fa 2 (.t 3), none, 0⟩,
   ⟨some 163, .ld 1 false (.t 162), none, 16⟩,
   ⟨some 164, .bin .quo (.t 161) (.t 163), none, 63⟩,
   ⟨some 22, .mv (.t 164), none, 127⟩]
def K1008_17 : CC := .seq (.reg false [⟨some 152, .mv (.t 21), none, 0⟩,
   ⟨some 153, .mv (.t 2), none, 0⟩,
   ⟨some 154, .len (.t 153), none, 0⟩,
   ⟨some 155, .bin .lss (.t 152) (.t 154), none, 0⟩])
 (.cond 155 (.skip)
   (.exit 8))
def L1008_18 : CC := .seq K1008_17 (.seq (.block 9 (.seq K1008_16 (.block 10 (.seq K1008_15 K1008_14)))) K1008_13)
def K1008_19 : CC := .reg false [⟨some 21, .mv (.c (.d (.v (.int .i64 0)))), none, 0⟩]
def L1008_20 : CC := .seq (.seq (.reg false [⟨some 118, .mv (.t 18), none, 0⟩,
   ⟨some 119, .fa 1 (.t 3), none, 0⟩,
   ⟨some 120, .ld 1 false (.t 119), none, 0⟩,
   ⟨some 121, .bin .lss (.t 118) (.t 120), none, 0⟩])
 (.cond 121 (.skip)
   (.exit 6)))
 (.seq (.block 7 (.seq (.reg false [⟨some 125, .ld 8 true (.t 3), none, 0⟩,
     ⟨some 126, .mv (.t 1), none, 0⟩,
     ⟨some 127, .mv (.t 18), none, 0⟩,
     ⟨some 128, .call (.c (.fn (.func 7) [] [])) [.t 125, .t 126, .t 127], none, 0⟩,
     ⟨some 124, .mv (.t 128), none, 0⟩,
     ⟨some 129, .ext 0 (.t 124), none, 0⟩,
     ⟨some 130, .ext 1 (.t 124), none, 0⟩,
     ⟨some 19, .mv (.t 129), none, 0⟩,
     ⟨some 20, .mv (.t 130), none, 0⟩])
   (.seq (.reg false [⟨some 131, .mv (.t 19), none, 0⟩,
     ⟨some 132, .bin .rem (.t 131) (.c (.d (.v (.int .u64 16)))), none, 0⟩,
     ⟨some 133, .eq .int false (.t 132) (.c (.d (.v (.int .u64 2)))), none, 0⟩])
   (.cond 133 (.seq (.reg false [⟨some 134, .mv (.t 17), none, 0⟩,
       ⟨some 135, .mv (.t 18), none, 0⟩,
       ⟨some 136, .fa 2 (.t 3), none, 0⟩,
       ⟨some 137, .ld 1 false (.t 136), none, 0⟩,
       ⟨some 138, .mv (.t 19), none, 0⟩,
       ⟨some 139, .bin .quo (.t 138) (.c (.d (.v (.int .u64 16)))), none, 0⟩,
       ⟨some 140, .bin .rem (.t 139) (.c (.d (.v (.int .u64 4096)))), none, 0⟩,
       ⟨some 141, .conv .i64 (.t 140), none, 0⟩,
       ⟨some 142, .bin .sub (.t 137) (.t 141), none, 0⟩,
       ⟨some 143, .ixs 1 (.t 134) (.t 135), none, 0⟩,
       ⟨none, .st 1 (.t 143) (.t 142), none, 0⟩])
     (.seq (.reg false [⟨some 144, .mv (.t 17), none, 0⟩,
       ⟨some 145, .mv (.t 18), none, 0⟩,
       ⟨some 146, .ixs 1 (.t 144) (.t 145), none, 0⟩,
       ⟨some 147, .ld 1 false (.t 146), none, 0⟩,
       ⟨some 148, .bin .leq (.t 147) (.c (.d (.v (.int .i64 0)))), none, 0⟩])
     (.cond 148 (.seq (.reg false [⟨some 6, .mv (.c (.d (.v (.bool true)))), none, 0⟩])
       (.ret))
       (.skip))))
     (.reg false [⟨some 149, .mv (.t 17), none, 0⟩,
       ⟨some 150, .mv (.t 18), none, 0⟩,
       ⟨some 151, .ixs 1 (.t 149) (.t 150), none, 0⟩,
       ⟨none, .st 1 (.t 151) (.c (.d (.v (.int .i64 (-1))))), none, 0⟩])))))
 (.reg false [⟨some 122, .mv (.t 18), none, 0⟩,
   ⟨some 123, .bin .add (.t 122) (.c (.d (.v (.int .i64 1)))), none, 0⟩,
   ⟨some 18, .mv (.t 123), none, 0⟩]))
def K1008_21 : CC := .reg false [⟨some 18, .mv (.c (.d (.v (.int .i64 0)))), none, 0⟩]
def K1008_22 : CC := .reg false [⟨some 115, .fa 1 (.t 3), none, 0⟩,
   ⟨some 116, .ld 1 false (.t 115), none, 0⟩,
   ⟨some 117, .mks 3 1 8 (some .i64) [.d (.v (.int .i64 0))] (.t 116), none, 0⟩,
   ⟨some 17, .mv (.t 117), none, 0⟩]
def K1008_23 : CC := .reg false [⟨some 112, .bsl 3 1 0 [.d (.v (.int .i64 0))] [], none, 0⟩,
   ⟨some 113, .mv (.t 10), none, 0⟩,
   ⟨some 114, .app 3 1 8 (some .i64) (.t 112) (.t 113), none, 0⟩,
   ⟨some 16, .mv (.t 114), none, 0⟩]
def K1008_24 : CC := .reg false [⟨some 15, .mv (.c (.d (.v (.slice none 0 0)))), none, 0⟩]
def K1008_25 : CC := .reg false [⟨some 64, .mv (.t 12), none, 0⟩,
   ⟨some 65, .bin .add (.t 64) (.c (.d (.v (.int .i64 1)))), none, 0⟩,
   ⟨some 12, .mv (.t 65), none, 0⟩]
def L1008_26 : CC := .seq (.seq (.reg false [⟨some 98, .mv (.t 14), none, 0⟩,
   ⟨some 99, .mv (.t 12), none, 0⟩,
   ⟨some 100, .bin .lss (.t 98) (.t 99), none, 0⟩])
 (.cond 100 (.skip)
   (.exit 4)))
 (.seq (.block 5 (.seq (.reg true [⟨some 103, .mv (.t 2), none, 0⟩,
     ⟨some 104, .mv (.t 14), none, 0⟩,
     ⟨some 105, .ixs 1 (.t 103) (.t 104), none, 3⟩,
     ⟨some 106, .ld 1 false (.t 105), none, 7⟩,
     ⟨some 107, .mv (.t 2), none, 0⟩,
     ⟨some 108, .mv (.t 12), none, 0⟩,
     ⟨some 109, .ixs 1 (.t 107) (.t 108), none, 48⟩,
     ⟨some 110, .ld 1 false (.t 109), none, 112⟩,
     ⟨some 111, .eq .int false (.t 106) (.t 110), none, 255⟩])
   (.cond 111 (.seq (.reg false [⟨some 6, .mv (.c (.d (.v (.bool true)))), none, 0⟩])
     (.ret))
     (.skip))))
 (.reg false [⟨some 101, .mv (.t 14), none, 0⟩,
   ⟨some 102, .bin .add (.t 101) (.c (.d (.v (.int .i64 1)))), none, 0⟩,
   ⟨some 14, .mv (.t 102), none, 0⟩]))
def K1008_27 : CC := .reg false [⟨some 14, .mv (.c (.d (.v (.int .i64 0)))), none, 0⟩]
def L1008_28 : CC := .seq (.seq (.reg false [⟨some 83, .mv (.t 13), none, 0⟩,
   ⟨some 84, .mv (.t 10), none, 0⟩,
   ⟨some 85, .len (.t 84), none, 0⟩,
   ⟨some 86, .bin .lss (.t 83) (.t 85), none, 0⟩])
 (.cond 86 (.skip)
   (.exit 2)))
 (.seq (.block 3 (.seq (.reg true [⟨some 89, .mv (.t 10), none, 0⟩,
     ⟨some 90, .mv (.t 13), none, 0⟩,
     ⟨some 91, .ixs 1 (.t 89) (.t 90), none, 3⟩,
     ⟨some 92, .ld 1 false (.t 91), none, 7⟩,
     ⟨some 93, .mv (.t 2), none, 0⟩,
     ⟨some 94, .mv (.t 12), none, 0⟩,
     ⟨some 95, .ixs 1 (.t 93) (.t 94), none, 48⟩,
     ⟨some 96, .ld 1 false (.t 95), none, 112⟩,
     ⟨some 97, .eq .int false (.t 92) (.t 96), none, 255⟩])
   (.cond 97 (.seq (.reg false [⟨some 6, .mv (.c (.d (.v (.bool true)))), none, 0⟩])
     (.ret))
     (.skip))))
 (.reg false [⟨some 87, .mv (.t 13), none, 0⟩,
   ⟨some 88, .bin .add (.t 87) (.c (.d (.v (.int .i64 1)))), none, 0⟩,
   ⟨some 13, .mv (.t 88), none, 0⟩]))
def K1008_29 : CC := .reg false [⟨some 13, .mv (.c (.d (.v (.int .i64 0)))), none, 0⟩]
def K1008_30 : CC := .seq (.reg true [⟨some 66, .mv (.t 2), none, 0⟩,
   ⟨some 67, .mv (.t 12), none, 0⟩,
   ⟨some 68, .ixs 1 (.t 66) (.t 67), none, 3⟩,
   ⟨some 69, .ld 1 false (.t 68), none, 7⟩,
   ⟨some 70, .bin .lss (.t 69) (.c (.d (.v (.int .i64 0)))), none, 15⟩,
   ⟨some 71, .mv (.t 70), none, 31⟩,
   ⟨some 72, .mv (.t 2), some (71, false), 63⟩,
   ⟨some 73, .mv (.t 12), some (71, false), 63⟩,
   ⟨some 74, .ixs 1 (.t 72) (.t 73), some (71, false), 255⟩,
   ⟨some 75, .ld 1 false (.t 74), some (71, false), 511⟩,
   ⟨some 76, .fa 1 (.t 3), some (71, false), 63⟩,
   ⟨some 77, .ld 1 false (.t 76), some (71, false), 1087⟩,
   ⟨some 78, .fa 2 (.t 3), some (71, false), 63⟩,
   ⟨some 79, .ld 1 false (.t 78), some (71, false), 4159⟩,
   ⟨some 80, .bin .mul (.t 77) (.t 79), some (71, false), 15423⟩,
   ⟨some 81, .bin .geq (.t 75) (.t 80), some (71, false), 32767⟩,
   ⟨some 82, .pick (.t 71) (.c (.d (.v (.bool true)))) (.t 81), none, 65535⟩])
 (.cond 82 (.seq (.reg false [⟨some 6, .mv (.c (.d (.v (.bool true)))), none, 0⟩])
   (.ret))
   (.skip))
def K1008_31 : CC := .seq (.reg false [⟨some 60, .mv (.t 12), none, 0⟩,
   ⟨some 61, .mv (.t 2), none, 0⟩,
   ⟨some 62, .len (.t 61), none, 0⟩,
   ⟨some 63, .bin .lss (.t 60) (.t 62), none, 0⟩])
 (.cond 63 (.skip)
   (.exit 0))
def L1008_32 : CC := .seq K1008_31 (.seq (.block 1 (.seq K1008_30 (.seq (.seq K1008_29 (.block 2 (.loop L1008_28))) (.seq K1008_27 (.block 4 (.loop L1008_26)))))) K1008_25)
def K1008_33 : CC := .reg false [⟨some 12, .mv (.c (.d (.v (.int .i64 0)))), none, 0⟩]
def K1008_34 : CC := .seq (.reg false [⟨some 49, .mv (.t 9), none, 0⟩,
   ⟨some 50, .un .not (.t 49), none, 0⟩,
   ⟨some 51, .mv (.t 50), none, 0⟩,
   ⟨some 52, .mv (.t 11), some (51, false), 0⟩,
   ⟨some 53, .un .not (.t 52), some (51, false), 0⟩,
   ⟨some 54, .pick (.t 51) (.c (.d (.v (.bool true)))) (.t 53), none, 0⟩,
   ⟨some 55, .mv (.t 54), none, 0⟩,
   ⟨some 56, .mv (.t 2), some (55, false), 0⟩,
   ⟨some 57, .len (.t 56), some (55, false), 0⟩,
   ⟨some 58, .bin .gtr (.t 57) (.c (.d (.v (.int .i64 20)))), some (55, false), 0⟩,
   ⟨some 59, .pick (.t 55) (.c (.d (.v (.bool true)))) (.t 58), none, 0⟩])
 (.cond 59 (.seq (.reg false [⟨some 6, .mv (.c (.d (.v (.bool true)))), none, 0⟩])
   (.ret))
   (.skip))
def K1008_35 : CC := .reg false [⟨some 44, .ld 8 true (.t 3), none, 0⟩,
   ⟨some 45, .mv (.t 1), none, 0⟩,
   ⟨some 46, .call (.c (.fn (.func 6) [] [])) [.t 44, .t 45, .c (.d (.v (.bool false)))], none, 0⟩,
   ⟨some 43, .mv (.t 46), none, 0⟩,
   ⟨some 47, .ext 0 (.t 43), none, 0⟩,
   ⟨some 48, .ext 1 (.t 43), none, 0⟩,
   ⟨some 10, .mv (.t 47), none, 0⟩,
   ⟨some 11, .mv (.t 48), none, 0⟩]
def K1008_36 : CC := .reg false [⟨some 37, .ld 8 true (.t 3), none, 0⟩,
   ⟨some 38, .mv (.t 1), none, 0⟩,
   ⟨some 39, .call (.c (.fn (.func 5) [] [])) [.t 37, .t 38], none, 0⟩,
   ⟨some 36, .mv (.t 39), none, 0⟩,
   ⟨some 40, .ext 0 (.t 36), none, 0⟩,
   ⟨some 41, .ext 1 (.t 36), none, 0⟩,
   ⟨some 42, .ext 2 (.t 36), none, 0⟩,
   ⟨some 7, .mv (.t 40), none, 0⟩,
   ⟨some 8, .mv (.t 41), none, 0⟩,
   ⟨some 9, .mv (.t 42), none, 0⟩]
def K1008_37 : CC := .seq (.reg false [⟨some 34, .call (.c (.fn (.func 4) [] [])) [], none, 0⟩,
   ⟨some 35, .un .not (.t 34), none, 0⟩])
 (.cond 35 (.seq (.reg false [⟨some 6, .mv (.c (.d (.v (.bool false)))), none, 0⟩])
   (.ret))
   (.skip))
def K1008_38 : CC := .reg false [⟨some 3, .box 24 8 (.t 0), none, 0⟩,
   ⟨some 6, .mv (.c (.d (.v (.bool false)))), none, 0⟩]
/-- coatcheck/coatchecklaw10.GiveAlone -/
def C1008 : CF := ⟨3, [(6, none)],
 .seq K1008_38 (.seq K1008_37 (.seq K1008_36 (.seq K1008_35 (.seq K1008_34 (.seq (.seq K1008_33 (.block 0 (.loop L1008_32))) (.seq K1008_24 (.seq K1008_23 (.seq K1008_22 (.seq (.seq K1008_21 (.block 6 (.loop L1008_20))) (.seq (.seq K1008_19 (.block 8 (.loop L1008_18))) (.seq K1008_12 (.seq K1008_11 (.seq (.block 11 (.loop L1008_10)) (.seq K1008_9 (.seq K1008_8 (.seq (.seq K1008_7 (.block 13 (.loop L1008_6))) K1008_1))))))))))))))))⟩
theorem c1008 : coF Try.prog Try.f3 = some C1008 := by kernel_rfl
def A1008 : Ann := { keep := [0, 1, 2, 3, 6, 7, 9, 10, 11, 12, 13, 14, 15, 16, 17, 18, 19, 21, 22, 23, 24, 25, 26, 27, 28, 29, 30, 31, 32, 35, 59, 63, 82, 86, 97, 100, 111, 121, 133, 148, 155, 172, 178, 190, 219, 230, 264, 268, 309], live := [(0, [1, 2, 3, 7, 10, 12]), (2, [1, 2, 3, 7, 10, 12, 13]), (4, [1, 2, 3, 7, 10, 12, 14]), (6, [1, 2, 3, 7, 15, 16, 17, 18]), (8, [2, 3, 7, 15, 16, 17, 21]), (11, [2, 3, 7, 15, 16, 17, 23, 24, 25]), (13, [3, 7, 17, 31])] }
def E1008 {Ω : Type} : Env Ω := econs 4 S1037 (econs 5 S44c (econs 6 S50f (econs 7 S1024c (econs 8 S1038z (econs 9 S1039m (econs 10 S33c (econs 11 S52 (econs 12 S1040 (enil)))))))))
theorem e1008 : GoodE Try.prog E1008 := GoodE.cons g1037 (GoodE.cons g44c (GoodE.cons g50f (GoodE.cons g1024c (GoodE.cons g1038z (GoodE.cons g1039m (GoodE.cons g33c (GoodE.cons g52 (GoodE.cons g1040 (GoodE.nil)))))))))
def Z1008_6 {Ω : Type} (it : Itr Ω) (K : SV → SH → Option Ω) : SE → SS → Option Ω := kblk 13 (kseq it E1008 A1008 K1008_1 0 (kfn C1008 K))
def Z1008_10 {Ω : Type} (it : Itr Ω) (K : SV → SH → Option Ω) : SE → SS → Option Ω := kblk 11 (kseq it E1008 A1008 (.seq K1008_9 (.seq K1008_8 (.seq (.seq K1008_7 (.block 13 (.loop L1008_6))) K1008_1))) 0 (kfn C1008 K))
def Z1008_18 {Ω : Type} (it : Itr Ω) (K : SV → SH → Option Ω) : SE → SS → Option Ω := kblk 8 (kseq it E1008 A1008 (.seq K1008_12 (.seq K1008_11 (.seq (.block 11 (.loop L1008_10)) (.seq K1008_9 (.seq K1008_8 (.seq (.seq K1008_7 (.block 13 (.loop L1008_6))) K1008_1)))))) 0 (kfn C1008 K))
def Z1008_20 {Ω : Type} (it : Itr Ω) (K : SV → SH → Option Ω) : SE → SS → Option Ω := kblk 6 (kseq it E1008 A1008 (.seq (.seq K1008_19 (.block 8 (.loop L1008_18))) (.seq K1008_12 (.seq K1008_11 (.seq (.block 11 (.loop L1008_10)) (.seq K1008_9 (.seq K1008_8 (.seq (.seq K1008_7 (.block 13 (.loop L1008_6))) K1008_1))))))) 0 (kfn C1008 K))
def Z1008_26 {Ω : Type} (it : Itr Ω) (K : SE → SS → Option Ω) : SE → SS → Option Ω := kblk 4 (kblk 1 (kseq it E1008 A1008 K1008_25 0 (K)))
def Z1008_28 {Ω : Type} (it : Itr Ω) (K : SE → SS → Option Ω) : SE → SS → Option Ω := kblk 2 (kseq it E1008 A1008 (.seq K1008_27 (.block 4 (.loop L1008_26))) 1 (kblk 1 (kseq it E1008 A1008 K1008_25 0 (K))))
def Z1008_32 {Ω : Type} (it : Itr Ω) (K : SV → SH → Option Ω) : SE → SS → Option Ω := kblk 0 (kseq it E1008 A1008 (.seq K1008_24 (.seq K1008_23 (.seq K1008_22 (.seq (.seq K1008_21 (.block 6 (.loop L1008_20))) (.seq (.seq K1008_19 (.block 8 (.loop L1008_18))) (.seq K1008_12 (.seq K1008_11 (.seq (.block 11 (.loop L1008_10)) (.seq K1008_9 (.seq K1008_8 (.seq (.seq K1008_7 (.block 13 (.loop L1008_6))) K1008_1))))))))))) 0 (kfn C1008 K))
end Go.Sx.Pr
