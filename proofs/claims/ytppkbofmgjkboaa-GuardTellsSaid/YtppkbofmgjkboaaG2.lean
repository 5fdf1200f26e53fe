/- The pure model: memory, a worker's state, the steps of the layers; packing of words. Plain Lean. -/
import Derived.Test.YtppkbofmgjkboaaSxMem
import Derived.Test.YtppkbofmgjkboaaP3
import Derived.Test.YtppkbofmgjkboaaN7
import Derived.Test.YtppkbofmgjkboaaN7
import Derived.Test.YtppkbofmgjkboaaRows
import Derived.KernelRfl
import Derived.Test.YtppkbofmgjkboaaSxMem
import Derived.Test.YtppkbofmgjkboaaN7
import Derived.Shelf.Sort.Plain
import Derived.Shelf.Slices.In.SortNone
import Derived.Ground.Names2Prog
import Derived.Test.YtppkbofmgjkboaaProg
import Derived.Shelf.Small.Bits
import Derived.Shelf.Slices.CompactI
import Derived.Test.YtppkbofmgjkboaaSxMem
import Derived.Test.YtppkbofmgjkboaaN7
import Derived.Lib.RowBridge
set_option linter.all false
set_option linter.unusedVariables false
set_option linter.unusedSimpArgs false
set_option linter.unnecessarySimpa false
namespace Go.Sx.Md
open Go Go.Sx

/-! ### data -/
structure Cf where
  (a b c d e f g l : Int)
structure Ac where
  (k a x y o : Int)
structure Mm where
  c : Cf
  s : Ac
  ws : List Int
structure Wk where
  line : Int
  kind : Int
  opT : Int
  opX : Int
  slab : Int
  use : Bool
  by_ : Int
  nth : Int
  pinned : Bool
  E : Int
  rack : List Int
  t0 : Int
  l0 : List Int
  t1 : Int
  l1 : List Int
  t2 : Int
  l2 : List Int
  hold : List Int
  B : Int
  K : Int
  I : Int
  C : Int
  borrow : Int
  H : Int
  N : Int
  V : Int
  U : Int
  G : Int
  J : Int
  read : List Int
  T : Int
  ret : Int
  give : Bool

def ctsW : List CT := [.i .i64, .i .i64, .i .u64, .i .u64, .i .i64, .b, .i .i64, .i .i64, .b, .i .u64, .s .i64, .i .u64, .s .i64, .i .u64, .s .i64, .i .u64, .s .i64, .s .i64, .i .i64, .i .i64, .i .i64, .i .i64, .i .i64, .i .u64, .i .u64, .i .u64, .i .u64, .i .u64, .i .i64, .s .u64, .i .u64, .i .i64, .b]
abbrev L64 (l : List Int) : SV := .d (.ints .i64 l)
abbrev LU (l : List Int) : SV := .d (.ints .u64 l)

def encT (x : Wk) : List SV := [Sx.I x.kind, Sx.U x.opT, Sx.U x.opX, Sx.I x.slab, Sx.B x.use, Sx.I x.by_, Sx.I x.nth, Sx.B x.pinned, Sx.U x.E, L64 x.rack, Sx.U x.t0, L64 x.l0, Sx.U x.t1, L64 x.l1, Sx.U x.t2, L64 x.l2, L64 x.hold,
  Sx.I x.B, Sx.I x.K, Sx.I x.I, Sx.I x.C, Sx.I x.borrow, Sx.U x.H, Sx.U x.N, Sx.U x.V, Sx.U x.U, Sx.U x.G, Sx.I x.J, LU x.read, Sx.U x.T, Sx.I x.ret, Sx.B x.give]
/-- The cells of a worker's state. -/
def encW (x : Wk) : List SV := Sx.I x.line :: encT x

def ofF (iv : Nat → Int) (bv : Nat → Bool) (sv : Nat → List Int) : Wk :=
  ⟨iv 0, iv 1, iv 2, iv 3, iv 4, bv 5, iv 6, iv 7, bv 8, iv 9, sv 10, iv 11, sv 12, iv 13, sv 14, iv 15, sv 16, sv 17, iv 18, iv 19, iv 20, iv 21, iv 22, iv 23, iv 24, iv 25, iv 26, iv 27, iv 28, sv 29, iv 30, iv 31, bv 32⟩

theorem enc_ofF (iv : Nat → Int) (bv : Nat → Bool) (sv : Nat → List Int) : encW (ofF iv bv sv) = (cellsD ctsW 0 iv bv sv).map .d := rfl

def dv : SV → DV
  | .d x => x
  | _ => .v undef
def decW (c : List SV) : Wk := ofF (fun j => getI (dv (c.getD j .top))) (fun j => getB (dv (c.getD j .top))) (fun j => getS (dv (c.getD j .top)))

/-- Cells of these kinds. -/
def isC : List CT → List SV → Bool
  | [], [] => true
  | .i k :: cs, .d (.v (.int k' _)) :: r => kEq k k' && isC cs r
  | .b :: cs, .d (.v (.bool _)) :: r => isC cs r
  | .s k :: cs, .d (.ints k' _) :: r => kEq k k' && isC cs r
  | _, _ => false

theorem isC_enc : ∀ {cts : List CT} {c : List SV} {j : Nat} {iv : Nat → Int} {bv : Nat → Bool} {sv : Nat → List Int}, isC cts c = true → (∀ i, i < c.length → iv (j + i) = getI (dv (c.getD i .top))) → (∀ i, i < c.length → bv (j + i) = getB (dv (c.getD i .top))) →
    (∀ i, i < c.length → sv (j + i) = getS (dv (c.getD i .top))) → c = (cellsD cts j iv bv sv).map .d
  | [], [], _, _, _, _, _, _, _, _ => rfl
  | [], _ :: _, _, _, _, _, h, _, _, _ => by simp [isC] at h
  | c :: _, [], _, _, _, _, h, _, _, _ => by cases c <;> simp [isC] at h
  | c :: cs, x :: r, j, iv, bv, sv, h, h1, h2, h3 => by
    unfold isC at h
    split at h
    · rename_i e _; cases e
    · rename_i e1 e2
      cases e1; cases e2
      simp only [Bool.and_eq_true] at h
      have := kEq_eq h.1
      subst this
      have e1 := h1 0 (by simp)
      simp only [Nat.add_zero, List.getD_cons_zero, dv, getI] at e1
      simp only [cellsD, List.map_cons, e1]
      rw [← isC_enc (j := j + 1) (iv := iv) (bv := bv) (sv := sv) h.2 (fun i hi => by have := h1 (i + 1) (by simpa using hi); rw [show j + 1 + i = j + (i + 1) by omega]; simpa using this)
        (fun i hi => by have := h2 (i + 1) (by simpa using hi); rw [show j + 1 + i = j + (i + 1) by omega]; simpa using this)
        (fun i hi => by have := h3 (i + 1) (by simpa using hi); rw [show j + 1 + i = j + (i + 1) by omega]; simpa using this)]
    · rename_i e1 e2
      cases e1; cases e2
      have e1 := h2 0 (by simp)
      simp only [Nat.add_zero, List.getD_cons_zero, dv, getB] at e1
      simp only [cellsD, List.map_cons, e1]
      rw [← isC_enc (j := j + 1) (iv := iv) (bv := bv) (sv := sv) h (fun i hi => by have := h1 (i + 1) (by simpa using hi); rw [show j + 1 + i = j + (i + 1) by omega]; simpa using this)
        (fun i hi => by have := h2 (i + 1) (by simpa using hi); rw [show j + 1 + i = j + (i + 1) by omega]; simpa using this)
        (fun i hi => by have := h3 (i + 1) (by simpa using hi); rw [show j + 1 + i = j + (i + 1) by omega]; simpa using this)]
    · rename_i e1 e2
      cases e1; cases e2
      simp only [Bool.and_eq_true] at h
      have := kEq_eq h.1
      subst this
      have e1 := h3 0 (by simp)
      simp only [Nat.add_zero, List.getD_cons_zero, dv, getS] at e1
      simp only [cellsD, List.map_cons, e1]
      rw [← isC_enc (j := j + 1) (iv := iv) (bv := bv) (sv := sv) h.2 (fun i hi => by have := h1 (i + 1) (by simpa using hi); rw [show j + 1 + i = j + (i + 1) by omega]; simpa using this)
        (fun i hi => by have := h2 (i + 1) (by simpa using hi); rw [show j + 1 + i = j + (i + 1) by omega]; simpa using this)
        (fun i hi => by have := h3 (i + 1) (by simpa using hi); rw [show j + 1 + i = j + (i + 1) by omega]; simpa using this)]
    · cases h

theorem enc_decW {c : List SV} (h : isC ctsW c = true) : encW (decW c) = c := by
  unfold decW
  rw [enc_ofF]
  exact (isC_enc h (fun i _ => by simp) (fun i _ => by simp) (fun i _ => by simp)).symm
end Go.Sx.Md

/- Words put together of fields, and taken apart. -/
namespace Go.Sx

/-! ### the packed words -/
def pHead (p v : Int) : Int := v % 4294967296 * 4294967296 + (p + 1) % 4294967296
def pEntry (g b s : Int) : Int := g % 17592186044416 * 1048576 + ((b + 1) % 65536 * 16 + s % 16)
def pAnn (e : Int) (a : Bool) : Int := e % 9223372036854775808 * 2 + bif a then 1 else 0
def pSlab (s p t : Int) : Int := t % 281474976710656 * 65536 + (p % 4096 * 16 + s % 16)
def pTicket (e g : Int) : Int := g % 281474976710656 * 65536 + (e + 1) % 65536
end Go.Sx

/- The pure model: memory's operations, the steps of the layers. -/
namespace Go.Sx.Pr
open Go Go.Sx Go.Sx.Md

/-! ### memory -/
def ac0 : Ac := ⟨0, 0, 0, 0, 0⟩
def Mm.ok (m : Mm) (a : Int) : Bool := inB a m.ws.length
def Mm.get (m : Mm) (a : Int) : Int := m.ws.getD a.toNat 0
def mSee (m : Mm) (k a x y : Int) : Ac := bif Mm.ok m a then ⟨k, a, x, y, Mm.get m a⟩ else ac0
def mSet (m : Mm) (g : Bool) (a x : Int) : List Int := bif g then m.ws.set a.toNat x else m.ws
def mLoadV (m : Mm) (a : Int) : Int := bif Mm.ok m a then Mm.get m a else 0
def mLoad (m : Mm) (a : Int) : Mm := { m with s := mSee m 1 a 0 0 }
def mStore (m : Mm) (a x : Int) : Mm := { m with s := mSee m 2 a x 0, ws := mSet m (Mm.ok m a) a x }
def mCasB (m : Mm) (a x : Int) : Bool := Mm.ok m a && (Mm.get m a == x)
def mCas (m : Mm) (a x y : Int) : Mm := { m with s := mSee m 3 a x y, ws := mSet m (mCasB m a x) a y }
def mAdd (m : Mm) (a x : Int) : Mm := { m with s := mSee m 4 a x 0, ws := mSet m (Mm.ok m a) a (IntKind.wrap .u64 (Mm.get m a + x)) }
def chkC (c : Cf) : Int := chk c.a c.b c.c c.d c.e c.f c.g c.l
def adr (c : Cf) (k i : Int) : Int := atV c.a c.b c.c c.d c.e c.f c.g c.l k i 0
/-! ### what a step answers -/
structure SR where
  m : Mm
  x : Wk
  way : Int
  ok : Bool

abbrev w64' (x : Int) : Int := IntKind.wrap .i64 x
/-! ### layer 7 -/
/-! ### layer 6 -/
/-! ### layer 8 -/
/-! ### layer 11 -/
end Go.Sx.Pr

/- Plain laws of the pure memory. -/
namespace Go.Sx.Pr
open Go Go.Sx Go.Sx.Md

theorem w64_id {x : Int} (h1 : -9223372036854775808 ≤ x) (h2 : x ≤ 9223372036854775807) : w64' x = x := by
  rw [w64', IntKind.wrap_i64]; omega
end Go.Sx.Pr

namespace Go.Sx.Pr
open Go Go.Sx Go.Proofs
set_option maxRecDepth 100000
/-- coatcheck/coatcheckref01.Unhead -/
def C51 : CF := ⟨1, [(2, none), (3, none)],
 .seq (.reg false [⟨some 2, .mv (.c (.d (.v (.int .i64 0)))), none, 0⟩,
   ⟨some 3, .mv (.c (.d (.v (.int .u64 0)))), none, 0⟩])
 (.seq (.reg true [⟨some 4, .mv (.t 0), none, 0⟩,
   ⟨some 5, .call (.c (.fn (.func 83) [] [])) [.t 4, .c (.d (.v (.int .i64 32)))], none, 1⟩,
   ⟨some 6, .conv .i64 (.t 5), none, 3⟩,
   ⟨some 7, .bin .sub (.t 6) (.c (.d (.v (.int .i64 1)))), none, 7⟩,
   ⟨some 8, .mv (.t 0), none, 0⟩,
   ⟨some 9, .call (.c (.fn (.func 87) [] [])) [.c (.d (.v (.int .i64 32)))], none, 3⟩,
   ⟨some 10, .bin .quo (.t 8) (.t 9), none, 51⟩,
   ⟨some 2, .mv (.t 7), none, 47⟩,
   ⟨some 3, .mv (.t 10), none, 255⟩])
 (.ret))⟩
def A51 : Ann := { keep := [0, 2, 3], live := [] }
def E51 {Ω : Type} : Env Ω := econs 83 S80c (econs 87 S83c (enil))
end Go.Sx.Pr

/- Packing of words: what both layers' functions answer, in numbers. -/
namespace Go.Sx.Pr
open Go Go.Sx Go.Proofs
set_option maxRecDepth 100000

def uB (x : Int) : Bool := decide (0 ≤ x) && decide (x ≤ 18446744073709551615)
theorem uB_iff {x : Int} : uB x = true ↔ 0 ≤ x ∧ x ≤ 18446744073709551615 := by simp [uB]
theorem lenAs_cons {t : AT} {ts : List AT} {L : List (List Int)} (h : lenAs (t :: ts) L) : ∃ a r, L = a :: r ∧ lenA t a.length ∧ lenAs ts r := h
theorem lenAs_nil {L : List (List Int)} (h : lenAs [] L) : L = [] := h

theorem d16 {w : Int} (h : 0 ≤ w) (k : Int) : Int.tdiv w k = w / k := Int.tdiv_eq_ediv_of_nonneg h
theorem n51 {Ω : Type} (K : SV → SH → Option Ω) (w : Int) :
    sxFn E51 A51 C51 [U w] [] K =
    br (decide (0 ≤ w) && true) (K (.tup [I (IntKind.wrap .i64 (IntKind.wrap .i64 (w % 4294967296) - 1)), U (IntKind.wrap .u64 (Int.tdiv w 4294967296))]) []) none := by kernel_rfl
theorem v51 {w : Int} (hw : 0 ≤ w ∧ w ≤ 18446744073709551615) : sxFn E51 A51 C51 [U w] [] KS = some (.tup [I (w % 4294967296 - 1), U (w / 4294967296)], []) := by
  rw [n51]
  rw [decide_eq_true (show 0 ≤ w by omega), Bool.true_and, br_t]
  rw [d16 hw.1]
  rw [show IntKind.wrap .i64 (IntKind.wrap .i64 (w % 4294967296) - 1) = w % 4294967296 - 1 by simp only [IntKind.wrap_u64, IntKind.wrap_i64, IntKind.wrap_u32, IntKind.wrap_u16, pHead, pEntry, pAnn, pSlab, pTicket, cond_true, cond_false]; omega]
  rw [show IntKind.wrap .u64 (w / 4294967296) = w / 4294967296 by simp only [IntKind.wrap_u64, IntKind.wrap_i64, IntKind.wrap_u32, IntKind.wrap_u16, pHead, pEntry, pAnn, pSlab, pTicket, cond_true, cond_false]; omega]
end Go.Sx.Pr

namespace Go.Sx.Pr
open Go Go.Sx Go.Proofs
set_option maxRecDepth 100000
end Go.Sx.Pr

/- Memory's operations, of both layers: what they answer and leave. -/
namespace Go.Sx.Pr
open Go Go.Sx Go.Sx.Md Go.Proofs
set_option maxRecDepth 100000

def encC (c : Cf) : List SV := [I c.a, I c.b, I c.c, I c.d, I c.e, I c.f, I c.g, U c.l]
/-- Memory, in one layer's order. -/
structure Lay where
  is : List SV → Bool
  dec : List SV → List Int → Mm
  enc : Mm → List SV
  own : Nat
end Go.Sx.Pr

/- Memory's operations, of both layers, on the pure memory. -/
namespace Go.Sx.Pr
open Go Go.Sx Go.Sx.Md Go.Proofs
set_option maxRecDepth 100000
def mAddV (m : Mm) (a x : Int) : Int := bif Mm.ok m a then IntKind.wrap .u64 (IntKind.wrap .u64 (Mm.get m a + x) - x) else 0
/-- A number in a cell of an argument. -/
def sI : SV → Option Int
  | .d (.v (.int .i64 x)) => some x
  | _ => none
def sU : SV → Option Int
  | .d (.v (.int .u64 x)) => some x
  | _ => none
def G21 (m : Mm) (l : List SV) : Option (Bool × SV × Mm) := match l with
  | [p0] => match sI p0 with
    | some a => some (true, U (mLoadV m a), mLoad m a)
    | _ => none
  | _ => none
def G23 (m : Mm) (l : List SV) : Option (Bool × SV × Mm) := match l with
  | [p0, p1] => match sI p0, sU p1 with
    | some a, some x => some (true, .tup [], mStore m a x)
    | _, _ => none
  | _ => none
def G25 (m : Mm) (l : List SV) : Option (Bool × SV × Mm) := match l with
  | [p0, p1, p2] => match sI p0, sU p1, sU p2 with
    | some a, some x, some y => some (true, B (mCasB m a x), mCas m a x y)
    | _, _, _ => none
  | _ => none
def G27 (m : Mm) (l : List SV) : Option (Bool × SV × Mm) := match l with
  | [p0, p1] => match sI p0, sU p1 with
    | some a, some x => some (true, U (mAddV m a x), mAdd m a x)
    | _, _ => none
  | _ => none
def G22 (m : Mm) (l : List SV) : Option (Bool × SV × Mm) := match l with
  | [p0] => match sI p0 with
    | some a => some (true, U (mLoadV m a), mLoad m a)
    | _ => none
  | _ => none
def G26 (m : Mm) (l : List SV) : Option (Bool × SV × Mm) := match l with
  | [p0, p1, p2] => match sI p0, sU p1, sU p2 with
    | some a, some x, some y => some (true, B (mCasB m a x), mCas m a x y)
    | _, _, _ => none
  | _ => none
end Go.Sx.Pr

/- Announcements; what is well formed. -/
namespace Go.Sx.Pr
open Go Go.Sx Go.Sx.Md Go.Proofs
set_option maxRecDepth 100000
/-! ### well formed -/
def okW (x : Wk) : Bool := uB x.opT && (uB x.opX && (uB x.E && (uB x.t0 && (uB x.t1 && (uB x.t2 && (uB x.H && (uB x.N && (uB x.V && (uB x.U && (uB x.G && uB x.T))))))))))

end Go.Sx.Pr

/- A worker's state as an argument of a law. -/
namespace Go.Sx.Pr
open Go Go.Sx Go.Sx.Md Go.Proofs Go.ChangeShapes Go.WideShapes Go.ChangeAt Go.RowKit
set_option maxRecDepth 100000

theorem flatW : flatT Try.prog 6 60 = some ctsW := by kernel_rfl
theorem uB_wf {x : Int} (h : (Lit.int .u64 x).wf = true) : uB x = true := uB_iff.2 (u64_wf h)

section
variable {H : Type} {enc : TypeId × Value → H} {w : World}
end
end Go.Sx.Pr

/- The contract of slices.Index on integers. -/
namespace Go.Sx.Pr
open Go Go.Sx Go.Sx.Md Go.Proofs
set_option maxRecDepth 100000

/-- A run's result, with some heap. -/
def GivesV (o : Option (SV × SH)) (r : SV) : Prop := ∃ H, o = some (r, H)
theorem givesV {r : SV} {H : SH} : GivesV (KS r H) r := ⟨H, rfl⟩
theorem GivesV.br {b : Bool} {x y : Option (SV × SH)} {r : SV} (h1 : b = true → GivesV x r) (h2 : b = false → GivesV y r) : GivesV (br b x y) r := by
  cases b with
  | true => exact h1 rfl
  | false => exact h2 rfl
theorem inB_of' {i : Int} {n : Nat} (h0 : 0 ≤ i) (h1 : i < n) : inB i n = true := by simp only [inB, Bool.and_eq_true, decide_eq_true_eq]; exact ⟨h0, h1⟩

theorem n123 {Ω : Type} (it : Itr Ω) (K : SV → SH → Option Ω) (xs : List Int) (v : Int) :
    sxFnI it E123 A123 C123 [.d (.ints .i64 xs), I v] [] K =
    it [0, 1, 7, 8] 0 (sxI it E123 A123 L123_2 0) (SS.mk [(0, .d (DV.ints .i64 xs)), (1, I v), (7, I (↑ (List.length xs) : Int)), (8, I 0)] []) (Z123_2 it K) := by kernel_rfl
theorem r123 {Ω : Type} (it : Itr Ω) (IT : SS → Option Ω) (K : SV → SH → Option Ω) (xs : List Int) (v i n : Int) :
    sxI it E123 A123 L123_2 0 ⟨[(0, .d (.ints .i64 xs)), (1, I v), (7, I n), (8, I i)], []⟩ (kitV [0, 1, 7, 8] 0 IT (Z123_2 it K)) =
    br (decide (i < n)) (br (inB i (List.length xs)) (br (v == List.getD xs (Int.toNat i) 0) (K (I i) []) (IT (SS.mk [(0, .d (DV.ints .i64 xs)), (1, I v), (7, I n), (8, I (w64' (i + 1)))] []))) none) (K (I (-1)) []) := by kernel_rfl

def idxV (v : Int) : Int → List Int → Int
  | _, [] => -1
  | i, x :: r => bif v == x then i else idxV v (i + 1) r
theorem idxV_ge {v : Int} : ∀ {r : List Int} {i : Int}, 0 ≤ i → (decide (idxV v i r ≥ 0)) = r.contains v
  | [], i, h => by simp [idxV]
  | x :: r, i, h => by
    unfold idxV
    cases hx : v == x with
    | true => simp only [cond_true, List.contains_cons, hx, Bool.true_or]; exact decide_eq_true h
    | false => simp only [cond_false, List.contains_cons, hx, Bool.false_or]; exact idxV_ge (by omega)
theorem l123 {xs : List Int} {v : Int} (hl : xs.length < 1000000000) : ∀ (r : List Int) (i N : Nat), xs.drop i = r → i + r.length = xs.length → r.length < N →
    GivesV (iter [0, 1, 7, 8] 0 (sxI itB E123 A123 L123_2 0) N ⟨[(0, .d (.ints .i64 xs)), (1, I v), (7, I xs.length), (8, I i)], []⟩ (Z123_2 itB KS)) (I (idxV v i r))
  | [], i, N, hd, hi, hN => by
    obtain ⟨N, rfl⟩ : ∃ k, N = k + 1 := ⟨N - 1, by omega⟩
    simp only [List.length_nil, Nat.add_zero] at hi
    rw [iter_succ, r123, decide_eq_false (by omega), br_f]
    exact givesV
  | x :: r, i, N, hd, hi, hN => by
    obtain ⟨N, rfl⟩ : ∃ k, N = k + 1 := ⟨N - 1, by omega⟩
    simp only [List.length_cons] at hi hN
    have hx : xs.getD i 0 = x := by
      have := congrArg (fun l => l.getD 0 0) hd
      simpa [List.getD_eq_getElem?_getD, List.getElem?_drop] using this
    have hr : xs.drop (i + 1) = r := by
      have := congrArg (List.drop 1) hd
      simpa [List.drop_drop, Nat.add_comm] using this
    rw [iter_succ, r123, decide_eq_true (by omega), br_t, inB_of' (by omega) (by omega), br_t, Int.toNat_natCast, hx]
    unfold idxV
    cases hv : v == x with
    | true => exact givesV
    | false =>
      rw [br_f, cond_false, w64_id (by omega) (by omega)]
      have ih := l123 (v := v) hl r (i + 1) N hr (by omega) (by omega)
      rw [show ((i + 1 : Nat) : Int) = (i : Int) + 1 by push_cast; rfl] at ih
      exact ih
theorem v123 {xs : List Int} {v : Int} (h : decide (xs.length < 1000000000) = true) : GivesV (sxFn E123 A123 C123 [.d (.ints .i64 xs), I v] [] KS) (I (idxV v 0 xs)) := by
  have hl := of_decide_eq_true h
  rw [← sxFnI_eq, n123, itB_def]
  exact l123 hl xs 0 big rfl (by simp) (by unfold big; omega)
def F123v : List (List Int) → Option (Bool × SV × SH)
  | [xs, [v]] => some (decide (xs.length < 1000000000), I (idxV v 0 xs), [])
  | _ => none
def S123c {Ω : Type} : Spec Ω := conSpec [.s .i64, .i .i64] F123v
theorem g123c : Good1 Try.prog 91 S123c := conGood Try.func91 (by kernel_rfl) c123 e123 mix (A := A123) fun L r hr hl hF => by
  obtain ⟨xs, l0, rfl, z0, hl1⟩ := lenAs_cons hl
  obtain ⟨q1, l1, rfl, z1, hl2⟩ := lenAs_cons hl1
  obtain ⟨v, rfl⟩ := one_of' z1
  have hz := lenAs_nil hl2
  subst hz
  simp only [F123v, Option.some.injEq, Prod.mk.injEq] at hF
  obtain ⟨hu, rfl, rfl⟩ := hF
  obtain ⟨H, hH⟩ := v123 (xs := xs) (v := v) (by first | exact hu | exact rfl)
  exact ⟨by first | exact trivial | exact ⟨trivial, trivial⟩ | exact ⟨trivial, trivial, trivial⟩ | exact ⟨trivial, trivial, trivial, trivial⟩, trivial, H, trim_none rfl _, hH⟩

end Go.Sx.Pr

namespace Go.Sx.Pr
open Go Go.Sx Go.Proofs
set_option maxRecDepth 100000
/-- slices.Contains[[]int,int] -/
def C91 : CF := ⟨2, [(4, none)],
 .seq (.reg false [⟨some 4, .mv (.c (.d (.v (.bool false)))), none, 0⟩])
 (.seq (.reg false [⟨some 5, .mv (.t 0), none, 0⟩,
   ⟨some 6, .mv (.t 1), none, 0⟩,
   ⟨some 7, .call (.c (.fn (.func 91) [] [])) [.t 5, .t 6], none, 0⟩,
   ⟨some 8, .bin .geq (.t 7) (.c (.d (.v (.int .i64 0)))), none, 0⟩,
   ⟨some 4, .mv (.t 8), none, 0⟩])
 (.ret))⟩
theorem c91 : coF Try.prog Try.f69 = some C91 := by kernel_rfl
def A91 : Ann := { keep := [0, 1, 4], live := [] }
def E91 {Ω : Type} : Env Ω := econs 91 S123c (enil)
theorem e91 : GoodE Try.prog E91 := GoodE.cons g123c (GoodE.nil)
end Go.Sx.Pr

/- The contract of slices.Contains on integers. -/
namespace Go.Sx.Pr
open Go Go.Sx Go.Sx.Md Go.Proofs
set_option maxRecDepth 100000
theorem n91 {Ω : Type} (K : SV → SH → Option Ω) (xs : List Int) (v : Int) :
    sxFn E91 A91 C91 [.d (.ints .i64 xs), I v] [] K =
    br (decide (List.length xs < 1000000000)) (K (B (decide (idxV v 0 xs ≥ 0))) []) none := by kernel_rfl
theorem v91 {xs : List Int} {v : Int} (h : decide (xs.length < 1000000000) = true) : GivesV (sxFn E91 A91 C91 [.d (.ints .i64 xs), I v] [] KS) (B (xs.contains v)) := by
  rw [n91, h, br_t, idxV_ge (Int.le_refl 0)]
  exact givesV
def F91v : List (List Int) → Option (Bool × SV × SH)
  | [xs, [v]] => some (decide (xs.length < 1000000000), B (xs.contains v), [])
  | _ => none
def S91c {Ω : Type} : Spec Ω := conSpec [.s .i64, .i .i64] F91v
theorem g91c : Good1 Try.prog 69 S91c := conGood Try.func69 (by kernel_rfl) c91 e91 mix (A := A91) fun L r hr hl hF => by
  obtain ⟨xs, l0, rfl, z0, hl1⟩ := lenAs_cons hl
  obtain ⟨q1, l1, rfl, z1, hl2⟩ := lenAs_cons hl1
  obtain ⟨v, rfl⟩ := one_of' z1
  have hz := lenAs_nil hl2
  subst hz
  simp only [F91v, Option.some.injEq, Prod.mk.injEq] at hF
  obtain ⟨hu, rfl, rfl⟩ := hF
  obtain ⟨H, hH⟩ := v91 (xs := xs) (v := v) (by first | exact hu | exact rfl)
  exact ⟨by first | exact trivial | exact ⟨trivial, trivial⟩ | exact ⟨trivial, trivial, trivial⟩ | exact ⟨trivial, trivial, trivial, trivial⟩, trivial, H, trim_none rfl _, hH⟩

end Go.Sx.Pr

/- slices.Sort at []int, laid at this seat (what the shelf's tool printed). -/
namespace Go.Proofs
open Go.Shelf
def Try.lays189_ren : Go.Shelf.Ren := ⟨fun | 189 => 61 | 125 => 89 | 257 => 88 | 128 => 109 | 129 => 110 | 294 => 100 | 295 => 101 | 296 => 102 | 297 => 103 | 298 => 104 | 299 => 105 | 216 => 106 | 300 => 107 | 301 => 108 | 328 => 122 | 329 => 123 | 330 => 124 | 331 => 125 | 332 => 126 | 215 => 127 | 343 => 129 | n => n, fun | 28 => 55 | 3 => 3 | 46 => 127 | 0 => 0 | 51 => 157 | 53 => 27 | 4 => 4 | 183 => 160 | 182 => 159 | 131 => 63 | 5 => 5 | 9 => 9 | 218 => 170 | 222 => 174 | 228 => 178 | 229 => 92 | n => n, fun | n => n⟩
theorem Try.lays189 : Go.Proofs.Lays.n189 Try.prog Try.lays189_ren := {
  mixed := by kernel_rfl
  f125 := Try.func89.trans (congrArg some (by kernel_rfl))
  f128 := Try.func109.trans (congrArg some (by kernel_rfl))
  f129 := Try.func110.trans (congrArg some (by kernel_rfl))
  f189 := Try.func61.trans (congrArg some (by kernel_rfl))
  f215 := Try.func127.trans (congrArg some (by kernel_rfl))
  f216 := Try.func106.trans (congrArg some (by kernel_rfl))
  f257 := Try.func88.trans (congrArg some (by kernel_rfl))
  f294 := Try.func100.trans (congrArg some (by kernel_rfl))
  f295 := Try.func101.trans (congrArg some (by kernel_rfl))
  f296 := Try.func102.trans (congrArg some (by kernel_rfl))
  f297 := Try.func103.trans (congrArg some (by kernel_rfl))
  f298 := Try.func104.trans (congrArg some (by kernel_rfl))
  f299 := Try.func105.trans (congrArg some (by kernel_rfl))
  f300 := Try.func107.trans (congrArg some (by kernel_rfl))
  f301 := Try.func108.trans (congrArg some (by kernel_rfl))
  f328 := Try.func122.trans (congrArg some (by kernel_rfl))
  f329 := Try.func123.trans (congrArg some (by kernel_rfl))
  f330 := Try.func124.trans (congrArg some (by kernel_rfl))
  f331 := Try.func125.trans (congrArg some (by kernel_rfl))
  f332 := Try.func126.trans (congrArg some (by kernel_rfl))
  f343 := Try.func129.trans (congrArg some (by kernel_rfl))
  t0 := Try.underlying0
  a0 := Try.isAgg0
  z0 := Try.sizeOf0
  v0 := Try.zeroValue0
  t3 := Try.underlying3
  a3 := Try.isAgg3
  z3 := Try.sizeOf3
  v3 := Try.zeroValue3
  t4 := Try.underlying4
  a4 := Try.isAgg4
  z4 := Try.sizeOf4
  v4 := Try.zeroValue4
  t5 := Try.underlying5
  a5 := Try.isAgg5
  z5 := Try.sizeOf5
  v5 := Try.zeroValue5
  t9 := Try.underlying9
  a9 := Try.isAgg9
  z9 := Try.sizeOf9
  v9 := Try.zeroValue9
  t28 := Try.underlying55
  a28 := Try.isAgg55
  z28 := Try.sizeOf55
  v28 := Try.zeroValue55
  t46 := Try.underlying127
  a46 := Try.isAgg127
  z46 := Try.sizeOf127
  v46 := Try.zeroValue127
  t51 := Try.underlying157
  a51 := Try.isAgg157
  z51 := Try.sizeOf157
  v51 := Try.zeroValue157
  t53 := Try.underlying27
  a53 := Try.isAgg27
  z53 := Try.sizeOf27
  v53 := Try.zeroValue27
  t131 := Try.underlying63
  a131 := Try.isAgg63
  z131 := Try.sizeOf63
  v131 := Try.zeroValue63
  t182 := Try.underlying159
  a182 := Try.isAgg159
  z182 := Try.sizeOf159
  v182 := Try.zeroValue159
  t183 := Try.underlying160
  a183 := Try.isAgg160
  z183 := Try.sizeOf160
  v183 := Try.zeroValue160
  t218 := Try.underlying170
  a218 := Try.isAgg170
  z218 := Try.sizeOf170
  v218 := Try.zeroValue170
  t222 := Try.underlying174
  a222 := Try.isAgg174
  z222 := Try.sizeOf174
  v222 := Try.zeroValue174
  t228 := Try.underlying178
  a228 := Try.isAgg178
  z228 := Try.sizeOf178
  v228 := Try.zeroValue178
  t229 := Try.underlying92
  a229 := Try.isAgg92
  z229 := Try.sizeOf92
  v229 := Try.zeroValue92 }
open Go.Sort Go.RowKit in
theorem Try.slices_Sort_int (blk off cap : Nat) (zs : List Int) (w : World) (hH : Holds (Value.int .i64) w blk off zs.toArray) (hblk : blk < w.heap.size) (hsz : zs.length < 4611686018427387904) :
    Calls Try.prog 61 #[.slice (some ⟨blk, off, none⟩) zs.length cap] w fun e w' =>
      e = .returned (.tuple #[]) ∧ ∃ n os, w' = grow (putRow (Value.int .i64) (Sort.ahead w n) blk off (zs.mergeSort fun x y => decide (x ≤ y)).toArray) os := Any.slices_Sort_int Try.lays189 blk off cap zs w hH hblk hsz
open Go.RowKit Go.Sort in
/-- .. and plain. (LAID: no walk: one application.) -/
theorem Try.slices_Sort_int_none (p : Option Addr) (cap : Nat) (w : World) :
    Calls Try.prog 61 #[.slice p 0 cap] w fun e w' => e = .returned (.tuple #[]) ∧ w' = w := Any.slices_Sort_int_none Try.lays189 p cap w
end Go.Proofs

/- The library contracts that this seat uses, laid at its program (what the shelf's tool printed). -/
namespace Go.Proofs
open Go.Shelf
def Try.lays125_ren : Go.Shelf.Ren := ⟨fun | 125 => 89 | 128 => 109 | 129 => 110 | n => n, fun | 46 => 127 | 3 => 3 | 51 => 157 | 53 => 27 | 4 => 4 | 5 => 5 | 9 => 9 | n => n, fun | n => n⟩
theorem Try.lays125 : Go.Proofs.Lays.n125 Try.prog Try.lays125_ren := {
  mixed := by kernel_rfl
  f125 := Try.func89.trans (congrArg some (by kernel_rfl))
  f128 := Try.func109.trans (congrArg some (by kernel_rfl))
  f129 := Try.func110.trans (congrArg some (by kernel_rfl))
  t3 := Try.underlying3
  a3 := Try.isAgg3
  z3 := Try.sizeOf3
  v3 := Try.zeroValue3
  t4 := Try.underlying4
  a4 := Try.isAgg4
  z4 := Try.sizeOf4
  v4 := Try.zeroValue4
  t5 := Try.underlying5
  a5 := Try.isAgg5
  z5 := Try.sizeOf5
  v5 := Try.zeroValue5
  t9 := Try.underlying9
  a9 := Try.isAgg9
  z9 := Try.sizeOf9
  v9 := Try.zeroValue9
  t46 := Try.underlying127
  a46 := Try.isAgg127
  z46 := Try.sizeOf127
  v46 := Try.zeroValue127
  t51 := Try.underlying157
  a51 := Try.isAgg157
  z51 := Try.sizeOf157
  v51 := Try.zeroValue157
  t53 := Try.underlying27
  a53 := Try.isAgg27
  z53 := Try.sizeOf27
  v53 := Try.zeroValue27 }
/-- bits.Len: "Len returns the minimum number of bits required to represent x; the result is 0 for x == 0.": IT RETURNS 'Lib.bitLen x'; the world is as it was. (A uint has 64 bits in the model.) ITS CALLEE bits.Len64 IS MET BY ITS OWN CONTRACT OFF THE SHELF (lay that first). (LAID: no walk: one application.) -/
theorem Try.bits_Len (x : Int) (w : World) (h0 : 0 ≤ x) (h1 : x ≤ 18446744073709551615) :
    Calls Try.prog 89 #[.int .u64 x] w fun e w' => e = .returned (.int .i64 (Lib.bitLen x.toNat)) ∧ w' = w := Any.bits_Len Try.lays125 x w h0 h1
def Try.laysNm220_ren : Go.Shelf.Ren := ⟨fun | 20 => 62 | n => n, fun | 22 => 55 | 3 => 3 | 4 => 4 | 0 => 0 | n => n, fun | n => n⟩
theorem Try.laysNm220 : Go.Proofs.Lays2.n20 Try.prog Try.laysNm220_ren := {
  mixed := by kernel_rfl
  f20 := Try.func62.trans (congrArg some (by kernel_rfl))
  t0 := Try.underlying0
  a0 := Try.isAgg0
  z0 := Try.sizeOf0
  v0 := Try.zeroValue0
  t3 := Try.underlying3
  a3 := Try.isAgg3
  z3 := Try.sizeOf3
  v3 := Try.zeroValue3
  t4 := Try.underlying4
  a4 := Try.isAgg4
  z4 := Try.sizeOf4
  v4 := Try.zeroValue4
  t22 := Try.underlying55
  a22 := Try.isAgg55
  z22 := Try.sizeOf55
  v22 := Try.zeroValue55
  i3 := by kernel_rfl }
open Go.RowKit Go.Lib Go.Sort in
/-- slices.Compact at []int: "Compact replaces consecutive runs of equal elements with a single copy. This is like the uniq command found on Unix. Compact modifies the contents of the slice s and returns the modified slice, which may have a smaller length. Compact zeroes the elements between the new length and the original length. The result preserves the nilness of s.": IT RETURNS THE SLICE CUT TO 'Lib.compact zs'; ITS CELLS HOLD 'Lib.compact zs', THEN ZERO VALUES up to the old length; all else is as it was, but for the count of draws. IN THE WORDS OF slices.Sort's CONTRACT ('Holds', 'putRow'): so the everyday 'slices.Sort(xs); xs = slices.Compact(xs)' goes from the one contract to the other. It asks 'zs.length ≤ cap' (every slice's: the reslicing 's[:k]' looks at it). Length 0, nil: '.._empty'. (LAID: no walk: one application.) -/
theorem Try.slices_Compact_int (blk off cap : Nat) (zs : List Int) (w : World) (hH : Holds (Value.int .i64) w blk off zs.toArray) (hsz : zs.length ≤ 9223372036854775807) (hcap : zs.length ≤ cap) :
    Calls Try.prog 62 #[.slice (some ⟨blk, off, none⟩) zs.length cap] w fun e w' => e = .returned (.slice (some ⟨blk, off, none⟩) (Lib.compact zs).length cap) ∧ ∃ q, w' = putRow (Value.int .i64) (Sort.ahead w q) blk off (Lib.compact zs ++ List.replicate (zs.length - (Lib.compact zs).length) 0).toArray := Any.slices_Compact_int Try.laysNm220 blk off cap zs w hH hsz hcap
open Go.RowKit Go.Lib Go.Sort in
/-- The same at a slice of length 0, a nil one too: it comes back as it is. (LAID: no walk: one application.) -/
theorem Try.slices_Compact_int_empty (a : Option Addr) (cap : Nat) (w : World) :
    Calls Try.prog 62 #[.slice a 0 cap] w fun e w' => e = .returned (.slice a 0 cap) ∧ w' = w := Any.slices_Compact_int_empty Try.laysNm220 a cap w
end Go.Proofs

/- Contracts with memory of functions that leave some of the locs as they are. -/
namespace Go.Sx

end Go.Sx

/- Contracts with memory whose results are data: rows that the callee made become data. -/
namespace Go.Sx

end Go.Sx

/- Contracts with several outcomes, whose results may say less than the run's. -/
namespace Go.Sx
end Go.Sx

namespace Go.Sx.Pr
open Go Go.Sx Go.Proofs
set_option maxRecDepth 100000
/-- cmp.isNaN[int] -/
def C1111 : CF := ⟨1, [(2, none)],
 .seq (.reg false [⟨some 2, .mv (.c (.d (.v (.bool false)))), none, 0⟩])
 (.seq (.reg false [⟨some 3, .mv (.t 0), none, 0⟩,
   ⟨some 4, .mv (.t 0), none, 0⟩,
   ⟨some 5, .eq .int true (.t 3) (.t 4), none, 0⟩,
   ⟨some 2, .mv (.t 5), none, 0⟩])
 (.ret))⟩
theorem c1111 : coF Try.prog Try.f127 = some C1111 := by kernel_rfl
def A1111 : Ann := { keep := [0, 2], live := [] }
def E1111 {Ω : Type} : Env Ω := enil
theorem e1111 : GoodE Try.prog E1111 := GoodE.nil
def S1111 {Ω : Type} : Spec Ω := inl E1111 A1111 C1111 false
theorem g1111 : Good1 Try.prog 127 S1111 := Good1.inl e1111 mix Try.func127 (by kernel_rfl) c1111 A1111 false
/-- cmp.Less[int] -/
def C1100 : CF := ⟨2, [(4, none)],
 .seq (.reg false [⟨some 4, .mv (.c (.d (.v (.bool false)))), none, 0⟩])
 (.seq (.reg false [⟨some 5, .mv (.t 0), none, 0⟩,
   ⟨some 6, .call (.c (.fn (.func 127) [] [])) [.t 5], none, 0⟩,
   ⟨some 7, .mv (.t 6), none, 0⟩,
   ⟨some 8, .mv (.t 1), some (7, true), 0⟩,
   ⟨some 9, .call (.c (.fn (.func 127) [] [])) [.t 8], some (7, true), 0⟩,
   ⟨some 10, .un .not (.t 9), some (7, true), 0⟩,
   ⟨some 11, .pick (.t 7) (.t 10) (.c (.d (.v (.bool false)))), none, 0⟩,
   ⟨some 12, .mv (.t 11), none, 0⟩,
   ⟨some 13, .mv (.t 0), some (12, false), 0⟩,
   ⟨some 14, .mv (.t 1), some (12, false), 0⟩,
   ⟨some 15, .bin .lss (.t 13) (.t 14), some (12, false), 0⟩,
   ⟨some 16, .pick (.t 12) (.c (.d (.v (.bool true)))) (.t 15), none, 0⟩,
   ⟨some 4, .mv (.t 16), none, 0⟩])
 (.ret))⟩
theorem c1100 : coF Try.prog Try.f106 = some C1100 := by kernel_rfl
def A1100 : Ann := { keep := [0, 1, 4], live := [] }
def E1100 {Ω : Type} : Env Ω := econs 127 S1111 (enil)
theorem e1100 : GoodE Try.prog E1100 := GoodE.cons g1111 (GoodE.nil)
def S1100 {Ω : Type} : Spec Ω := inl E1100 A1100 C1100 false
theorem g1100 : Good1 Try.prog 106 S1100 := Good1.inl e1100 mix Try.func106 (by kernel_rfl) c1100 A1100 false
def K1094_1 : CC := .reg false [⟨some 13, .mv (.t 6), none, 0⟩,
   ⟨some 14, .bin .add (.t 13) (.c (.d (.v (.int .i64 1)))), none, 0⟩,
   ⟨some 6, .mv (.t 14), none, 0⟩]
def K1094_2 : CC := .seq (.block 3 (.reg true [⟨some 33, .mv (.t 0), none, 0⟩,
     ⟨some 34, .mv (.t 7), none, 0⟩,
     ⟨some 35, .mv (.t 0), none, 0⟩,
     ⟨some 36, .mv (.t 7), none, 0⟩,
     ⟨some 37, .bin .sub (.t 36) (.c (.d (.v (.int .i64 1)))), none, 8⟩,
     ⟨some 38, .mv (.t 0), none, 0⟩,
     ⟨some 39, .mv (.t 7), none, 0⟩,
     ⟨some 40, .bin .sub (.t 39) (.c (.d (.v (.int .i64 1)))), none, 64⟩,
     ⟨some 41, .ixs 1 (.t 38) (.t 40), none, 224⟩,
     ⟨some 42, .ld 1 false (.t 41), none, 480⟩,
     ⟨some 43, .mv (.t 0), none, 0⟩,
     ⟨some 44, .mv (.t 7), none, 0⟩,
     ⟨some 45, .ixs 1 (.t 43) (.t 44), none, 3072⟩,
     ⟨some 46, .ld 1 false (.t 45), none, 7168⟩,
     ⟨some 47, .ixs 1 (.t 33) (.t 34), none, 16355⟩,
     ⟨none, .st 1 (.t 47) (.t 42), none, 32739⟩,
     ⟨some 48, .ixs 1 (.t 35) (.t 37), none, 65535⟩,
     ⟨none, .st 1 (.t 48) (.t 46), none, 131071⟩]))
 (.reg false [⟨some 31, .mv (.t 7), none, 0⟩,
   ⟨some 32, .bin .sub (.t 31) (.c (.d (.v (.int .i64 1)))), none, 0⟩,
   ⟨some 7, .mv (.t 32), none, 0⟩])
def K1094_3 : CC := .seq (.reg true [⟨some 16, .mv (.t 7), none, 0⟩,
   ⟨some 17, .mv (.t 1), none, 0⟩,
   ⟨some 18, .bin .gtr (.t 16) (.t 17), none, 3⟩,
   ⟨some 19, .mv (.t 18), none, 7⟩,
   ⟨some 20, .mv (.t 0), some (19, true), 15⟩,
   ⟨some 21, .mv (.t 7), some (19, true), 15⟩,
   ⟨some 22, .ixs 1 (.t 20) (.t 21), some (19, true), 63⟩,
   ⟨some 23, .ld 1 false (.t 22), some (19, true), 127⟩,
   ⟨some 24, .mv (.t 0), some (19, true), 15⟩,
   ⟨some 25, .mv (.t 7), some (19, true), 15⟩,
   ⟨some 26, .bin .sub (.t 25) (.c (.d (.v (.int .i64 1)))), some (19, true), 527⟩,
   ⟨some 27, .ixs 1 (.t 24) (.t 26), some (19, true), 1807⟩,
   ⟨some 28, .ld 1 false (.t 27), some (19, true), 3855⟩,
   ⟨some 29, .call (.c (.fn (.func 106) [] [])) [.t 23, .t 28], some (19, true), 8191⟩,
   ⟨some 30, .pick (.t 19) (.t 29) (.c (.d (.v (.bool false)))), none, 16383⟩])
 (.cond 30 (.skip)
   (.exit 2))
def L1094_4 : CC := .seq K1094_3 K1094_2
def K1094_5 : CC := .reg false [⟨some 15, .mv (.t 6), none, 0⟩,
   ⟨some 7, .mv (.t 15), none, 0⟩]
def K1094_6 : CC := .seq (.reg false [⟨some 10, .mv (.t 6), none, 0⟩,
   ⟨some 11, .mv (.t 2), none, 0⟩,
   ⟨some 12, .bin .lss (.t 10) (.t 11), none, 0⟩])
 (.cond 12 (.skip)
   (.exit 0))
def L1094_7 : CC := .seq K1094_6 (.seq (.block 1 (.seq K1094_5 (.block 2 (.loop L1094_4)))) K1094_1)
def K1094_8 : CC := .reg false [⟨some 8, .mv (.t 1), none, 0⟩,
   ⟨some 9, .bin .add (.t 8) (.c (.d (.v (.int .i64 1)))), none, 0⟩,
   ⟨some 6, .mv (.t 9), none, 0⟩]
/-- slices.insertionSortOrdered[int] -/
def C1094 : CF := ⟨3, [],
 .seq K1094_8 (.block 0 (.loop L1094_7))⟩
theorem c1094 : coF Try.prog Try.f100 = some C1094 := by kernel_rfl
def A1094 : Ann := { keep := [0, 1, 2, 6, 7, 12, 30], live := [(0, [0, 1, 2, 6]), (2, [0, 1, 2, 6, 7])] }
def E1094 {Ω : Type} : Env Ω := econs 106 S1100 (enil)
theorem e1094 : GoodE Try.prog E1094 := GoodE.cons g1100 (GoodE.nil)
def S1094 {Ω : Type} : Spec Ω := inl E1094 A1094 C1094 false
theorem g1094 : Good1 Try.prog 100 S1094 := Good1.inl e1094 mix Try.func100 (by kernel_rfl) c1094 A1094 false
def K1085_1 : CC := .cond 113 (.seq (.reg false [⟨some 114, .mv (.t 16), none, 0⟩,
     ⟨some 115, .mv (.t 18), none, 0⟩,
     ⟨some 116, .bin .geq (.t 114) (.t 115), none, 0⟩,
     ⟨some 8, .mv (.t 116), none, 0⟩])
   (.seq (.reg false [⟨some 117, .mv (.t 0), none, 0⟩,
     ⟨some 118, .mv (.t 1), none, 0⟩,
     ⟨some 119, .mv (.t 14), none, 0⟩,
     ⟨some 120, .mv (.t 3), none, 0⟩,
     ⟨some 121, .call (.c (.fn (.func 88) [] [])) [.t 117, .t 118, .t 119, .t 120], none, 0⟩])
   (.reg false [⟨some 122, .mv (.t 14), none, 0⟩,
     ⟨some 123, .bin .add (.t 122) (.c (.d (.v (.int .i64 1)))), none, 0⟩,
     ⟨some 1, .mv (.t 123), none, 0⟩])))
   (.seq (.reg false [⟨some 124, .mv (.t 17), none, 0⟩,
     ⟨some 125, .mv (.t 18), none, 0⟩,
     ⟨some 126, .bin .geq (.t 124) (.t 125), none, 0⟩,
     ⟨some 8, .mv (.t 126), none, 0⟩])
   (.seq (.reg false [⟨some 127, .mv (.t 0), none, 0⟩,
     ⟨some 128, .mv (.t 14), none, 0⟩,
     ⟨some 129, .bin .add (.t 128) (.c (.d (.v (.int .i64 1)))), none, 0⟩,
     ⟨some 130, .mv (.t 2), none, 0⟩,
     ⟨some 131, .mv (.t 3), none, 0⟩,
     ⟨some 132, .call (.c (.fn (.func 88) [] [])) [.t 127, .t 129, .t 130, .t 131], none, 0⟩])
   (.reg false [⟨some 133, .mv (.t 14), none, 0⟩,
     ⟨some 2, .mv (.t 133), none, 0⟩])))
def K1085_2 : CC := .reg false [⟨some 111, .mv (.t 16), none, 0⟩,
   ⟨some 112, .mv (.t 17), none, 0⟩,
   ⟨some 113, .bin .lss (.t 111) (.t 112), none, 0⟩]
def K1085_3 : CC := .reg false [⟨some 109, .mv (.t 10), none, 0⟩,
   ⟨some 110, .bin .quo (.t 109) (.c (.d (.v (.int .i64 8)))), none, 0⟩,
   ⟨some 18, .mv (.t 110), none, 0⟩]
def K1085_4 : CC := .reg false [⟨some 103, .mv (.t 14), none, 0⟩,
   ⟨some 104, .mv (.t 1), none, 0⟩,
   ⟨some 105, .bin .sub (.t 103) (.t 104), none, 0⟩,
   ⟨some 106, .mv (.t 2), none, 0⟩,
   ⟨some 107, .mv (.t 14), none, 0⟩,
   ⟨some 108, .bin .sub (.t 106) (.t 107), none, 0⟩,
   ⟨some 16, .mv (.t 105), none, 0⟩,
   ⟨some 17, .mv (.t 108), none, 0⟩]
def K1085_5 : CC := .reg false [⟨some 102, .mv (.t 15), none, 0⟩,
   ⟨some 9, .mv (.t 102), none, 0⟩]
def K1085_6 : CC := .reg false [⟨some 95, .mv (.t 0), none, 0⟩,
   ⟨some 96, .mv (.t 1), none, 0⟩,
   ⟨some 97, .mv (.t 2), none, 0⟩,
   ⟨some 98, .mv (.t 11), none, 0⟩,
   ⟨some 99, .call (.c (.fn (.func 108) [] [])) [.t 95, .t 96, .t 97, .t 98], none, 0⟩,
   ⟨some 94, .mv (.t 99), none, 0⟩,
   ⟨some 100, .ext 0 (.t 94), none, 0⟩,
   ⟨some 101, .ext 1 (.t 94), none, 0⟩,
   ⟨some 14, .mv (.t 100), none, 0⟩,
   ⟨some 15, .mv (.t 101), none, 0⟩]
def K1085_7 : CC := .seq (.reg true [⟨some 73, .mv (.t 1), none, 0⟩,
   ⟨some 74, .bin .gtr (.t 73) (.c (.d (.v (.int .i64 0)))), none, 1⟩,
   ⟨some 75, .mv (.t 74), none, 3⟩,
   ⟨some 76, .mv (.t 0), some (75, true), 7⟩,
   ⟨some 77, .mv (.t 1), some (75, true), 7⟩,
   ⟨some 78, .bin .sub (.t 77) (.c (.d (.v (.int .i64 1)))), some (75, true), 23⟩,
   ⟨some 79, .ixs 1 (.t 76) (.t 78), some (75, true), 63⟩,
   ⟨some 80, .ld 1 false (.t 79), some (75, true), 127⟩,
   ⟨some 81, .mv (.t 0), some (75, true), 7⟩,
   ⟨some 82, .mv (.t 11), some (75, true), 7⟩,
   ⟨some 83, .ixs 1 (.t 81) (.t 82), some (75, true), 775⟩,
   ⟨some 84, .ld 1 false (.t 83), some (75, true), 1799⟩,
   ⟨some 85, .call (.c (.fn (.func 106) [] [])) [.t 80, .t 84], some (75, true), 4095⟩,
   ⟨some 86, .un .not (.t 85), some (75, true), 8191⟩,
   ⟨some 87, .pick (.t 75) (.t 86) (.c (.d (.v (.bool false)))), none, 16383⟩])
 (.cond 87 (.seq (.reg false [⟨some 88, .mv (.t 0), none, 0⟩,
     ⟨some 89, .mv (.t 1), none, 0⟩,
     ⟨some 90, .mv (.t 2), none, 0⟩,
     ⟨some 91, .mv (.t 11), none, 0⟩,
     ⟨some 92, .call (.c (.fn (.func 107) [] [])) [.t 88, .t 89, .t 90, .t 91], none, 0⟩,
     ⟨some 13, .mv (.t 92), none, 0⟩])
   (.seq (.reg false [⟨some 93, .mv (.t 13), none, 0⟩,
     ⟨some 1, .mv (.t 93), none, 0⟩])
   (.exit 1)))
   (.skip))
def K1085_8 : CC := .seq (.reg false [⟨some 61, .mv (.t 8), none, 0⟩,
   ⟨some 62, .mv (.t 61), none, 0⟩,
   ⟨some 63, .mv (.t 9), some (62, true), 0⟩,
   ⟨some 64, .pick (.t 62) (.t 63) (.c (.d (.v (.bool false)))), none, 0⟩,
   ⟨some 65, .mv (.t 64), none, 0⟩,
   ⟨some 66, .mv (.t 12), some (65, true), 0⟩,
   ⟨some 67, .eq .int false (.t 66) (.c (.d (.v (.int .i64 1)))), some (65, true), 0⟩,
   ⟨some 68, .pick (.t 65) (.t 67) (.c (.d (.v (.bool false)))), none, 0⟩])
 (.cond 68 (.seq (.reg false [⟨some 69, .mv (.t 0), none, 0⟩,
     ⟨some 70, .mv (.t 1), none, 0⟩,
     ⟨some 71, .mv (.t 2), none, 0⟩,
     ⟨some 72, .call (.c (.fn (.func 105) [] [])) [.t 69, .t 70, .t 71], none, 0⟩])
   (.cond 72 (.ret)
     (.skip)))
   (.skip))
def K1085_9 : CC := .seq (.reg false [⟨some 49, .mv (.t 12), none, 0⟩,
   ⟨some 50, .eq .int false (.t 49) (.c (.d (.v (.int .i64 2)))), none, 0⟩])
 (.cond 50 (.seq (.reg false [⟨some 51, .mv (.t 0), none, 0⟩,
     ⟨some 52, .mv (.t 1), none, 0⟩,
     ⟨some 53, .mv (.t 2), none, 0⟩,
     ⟨some 54, .call (.c (.fn (.func 104) [] [])) [.t 51, .t 52, .t 53], none, 0⟩])
   (.seq (.reg false [⟨some 55, .mv (.t 2), none, 0⟩,
     ⟨some 56, .bin .sub (.t 55) (.c (.d (.v (.int .i64 1)))), none, 0⟩,
     ⟨some 57, .mv (.t 11), none, 0⟩,
     ⟨some 58, .mv (.t 1), none, 0⟩,
     ⟨some 59, .bin .sub (.t 57) (.t 58), none, 0⟩,
     ⟨some 60, .bin .sub (.t 56) (.t 59), none, 0⟩,
     ⟨some 11, .mv (.t 60), none, 0⟩])
   (.reg false [⟨some 12, .mv (.c (.d (.v (.int .i64 1)))), none, 0⟩])))
   (.skip))
def K1085_10 : CC := .reg false [⟨some 43, .mv (.t 0), none, 0⟩,
   ⟨some 44, .mv (.t 1), none, 0⟩,
   ⟨some 45, .mv (.t 2), none, 0⟩,
   ⟨some 46, .call (.c (.fn (.func 103) [] [])) [.t 43, .t 44, .t 45], none, 0⟩,
   ⟨some 42, .mv (.t 46), none, 0⟩,
   ⟨some 47, .ext 0 (.t 42), none, 0⟩,
   ⟨some 48, .ext 1 (.t 42), none, 0⟩,
   ⟨some 11, .mv (.t 47), none, 0⟩,
   ⟨some 12, .mv (.t 48), none, 0⟩]
def K1085_11 : CC := .seq (.reg false [⟨some 34, .mv (.t 8), none, 0⟩,
   ⟨some 35, .un .not (.t 34), none, 0⟩])
 (.cond 35 (.seq (.reg false [⟨some 36, .mv (.t 0), none, 0⟩,
     ⟨some 37, .mv (.t 1), none, 0⟩,
     ⟨some 38, .mv (.t 2), none, 0⟩,
     ⟨some 39, .call (.c (.fn (.func 102) [] [])) [.t 36, .t 37, .t 38], none, 0⟩])
   (.reg false [⟨some 40, .mv (.t 3), none, 0⟩,
     ⟨some 41, .bin .sub (.t 40) (.c (.d (.v (.int .i64 1)))), none, 0⟩,
     ⟨some 3, .mv (.t 41), none, 0⟩]))
   (.skip))
def K1085_12 : CC := .seq (.reg false [⟨some 28, .mv (.t 3), none, 0⟩,
   ⟨some 29, .eq .int false (.t 28) (.c (.d (.v (.int .i64 0)))), none, 0⟩])
 (.cond 29 (.seq (.reg false [⟨some 30, .mv (.t 0), none, 0⟩,
     ⟨some 31, .mv (.t 1), none, 0⟩,
     ⟨some 32, .mv (.t 2), none, 0⟩,
     ⟨some 33, .call (.c (.fn (.func 101) [] [])) [.t 30, .t 31, .t 32], none, 0⟩])
   (.ret))
   (.skip))
def K1085_13 : CC := .seq (.reg false [⟨some 22, .mv (.t 10), none, 0⟩,
   ⟨some 23, .bin .leq (.t 22) (.c (.d (.v (.int .i64 12)))), none, 0⟩])
 (.cond 23 (.seq (.reg false [⟨some 24, .mv (.t 0), none, 0⟩,
     ⟨some 25, .mv (.t 1), none, 0⟩,
     ⟨some 26, .mv (.t 2), none, 0⟩,
     ⟨some 27, .call (.c (.fn (.func 100) [] [])) [.t 24, .t 25, .t 26], none, 0⟩])
   (.ret))
   (.skip))
def K1085_14 : CC := .reg false [⟨some 19, .mv (.t 2), none, 0⟩,
   ⟨some 20, .mv (.t 1), none, 0⟩,
   ⟨some 21, .bin .sub (.t 19) (.t 20), none, 0⟩,
   ⟨some 10, .mv (.t 21), none, 0⟩]
def L1085_15 : CC := .block 1 (.seq K1085_14 (.seq K1085_13 (.seq K1085_12 (.seq K1085_11 (.seq K1085_10 (.seq K1085_9 (.seq K1085_8 (.seq K1085_7 (.seq K1085_6 (.seq K1085_5 (.seq K1085_4 (.seq K1085_3 (.seq K1085_2 K1085_1)))))))))))))
def K1085_16 : CC := .reg false [⟨some 9, .mv (.c (.d (.v (.bool true)))), none, 0⟩]
def K1085_17 : CC := .reg false [⟨some 8, .mv (.c (.d (.v (.bool true)))), none, 0⟩]
/-- slices.pdqsortOrdered[int] -/
def C1085 : CF := ⟨4, [],
 .seq K1085_17 (.seq K1085_16 (.block 0 (.loop L1085_15)))⟩
theorem c1085 : coF Try.prog Try.f88 = some C1085 := by kernel_rfl
def A1085 : Ann := { keep := [0, 1, 2, 3, 8, 9, 10, 11, 12, 13, 14, 15, 16, 17, 18, 23, 29, 35, 50, 68, 72, 87, 113], live := [(0, [0, 1, 2, 3, 8, 9])] }
def E1085 {Ω : Type} : Env Ω := econs 100 S1094 (econs 106 S1100 (enil))
theorem e1085 : GoodE Try.prog E1085 := GoodE.cons g1094 (GoodE.cons g1100 (GoodE.nil))
def S1085 {Ω : Type} : Spec Ω := inl E1085 A1085 C1085 false
theorem g1085 : Good1 Try.prog 88 S1085 := Good1.inl e1085 mix Try.func88 (by kernel_rfl) c1085 A1085 false
end Go.Sx.Pr

/- Contracts of the library by hand: bits.Len, slices.Compact on a row of our own. -/
namespace Go.Sx.Pr
open Go Go.Sx Go.Sx.Md Go.Proofs
set_option maxRecDepth 100000

theorem scrubL_no {l : Nat} : ∀ {c : List SV}, mentL (Nat.beq l) c = false → scrubL l c = c
  | [], _ => rfl
  | x :: r, h => by
    simp only [mentL, Bool.or_eq_false_iff] at h
    simp only [scrubL, h.1, cond_false, scrubL_no h.2]
theorem scrubE_no {l : Nat} : ∀ {c : List (Value × SV)}, mentE (Nat.beq l) c = false → scrubE l c = c
  | [], _ => rfl
  | (q, x) :: r, h => by
    simp only [mentE, Bool.or_eq_false_iff] at h
    simp only [scrubE, h.1, cond_false, scrubE_no h.2]
theorem scrubH_no {l : Nat} : ∀ {h : SH}, mentH (Nat.beq l) h = false → scrubH l h = h
  | [], _ => rfl
  | o :: r, h => by
    simp only [mentH, Bool.or_eq_false_iff] at h
    simp only [scrubH, scrubH_no h.2]
    congr 1
    cases o <;> simp_all [scrubO, mentO, scrubL_no, scrubE_no]
theorem enter_of {n : Nat} {f : Func} (hf : Try.prog.funcs[n]? = some f) (hn : (f.name == "runtime.NumGoroutine") = false) (hb : f.body.isSome = true) (args : Array Value) (w : World) : (callFunc n args).run Try.prog w = .ok (.enter n args) w := by
  have h1 : f.name ≠ "runtime.NumGoroutine" := by simpa using hn
  obtain ⟨c, hb⟩ := Option.isSome_iff_exists.1 hb
  simp [callFunc, hf, h1, hb]

def S1086 {Ω : Type} : Spec Ω := fun args h k => match args with
  | [.d (.v (.int .u64 x))] => br (decide (0 ≤ x) && decide (x ≤ 18446744073709551615)) (k (.d (.v (.int .i64 (Lib.bitLen x.toNat)))) [] [] h) none
  | _ => none
theorem g1086 : Good1 Try.prog 89 S1086 := by
  refine ⟨fun Ω => ⟨enter_of Try.func89 (by kernel_rfl) (by kernel_rfl), fun args h k out hs => ?_⟩, fun Ω Ω' => ?_⟩
  · unfold S1086 at hs
    split at hs
    · rename_i x
      rcases br_some hs with ⟨hb, hs2⟩ | ⟨hb, hs2⟩
      · simp only [Bool.and_eq_true, decide_eq_true_eq] at hb
        refine ⟨_, _, _, _, hs2, Keeps.refl _ _, fun cx w vals hg ha => ?_⟩
        match vals, ha with
        | [u], ha =>
          simp only [SRepL, SRep, DRep, and_true] at ha
          obtain ⟨rfl, _⟩ := ha
          refine (Try.bits_Len x w hb.1 hb.2).mono fun e w' ⟨e1, e2⟩ => ?_
          subst e2
          exact ⟨_, cx, e1, Grow.refl _ _ _, by simp [SRep, DRep, cellV], hg⟩
        | [], ha => simp [SRepL] at ha
        | _ :: _ :: _, ha => simp [SRepL] at ha
      · cases hs2
    · cases hs
  · intro args h k out hs
    unfold S1086 at hs ⊢
    split at hs
    · rename_i x
      rcases br_some hs with ⟨hb, hs⟩ | ⟨hb, hs⟩
      · exact ⟨_, _, _, _, hs, fun k' => by simp only [hb, br, cond_true]⟩
      · cases hs
    · cases hs

def S1080 {Ω : Type} : Spec Ω := fun args h k => match args with
  | [.own l] => match hget h l with
    | .rowi t .i64 xs => br (decide (xs.length ≤ 9223372036854775807) && !mentH (Nat.beq l) h) (k (.own l) [l] [l] (h.set l (.rowi t .i64 (Lib.compact xs)))) none
    | _ => none
  | _ => none
theorem compact_own {cx : Cx} {h : SH} {w : World} {l : Nat} {t : TypeId} {xs : List Int} (hgt : hget h l = .rowi t .i64 xs) (hb : xs.length ≤ 9223372036854775807) (hm : mentH (Nat.beq l) h = false)
    (hg : Gam cx h w) {u : Value} (hu : SRep cx w (.own l) u) :
    Calls Try.prog 62 #[u] w fun e w' => ∃ v cx', e = .returned v ∧ Grow (Nat.beq l) cx w cx' w' ∧ SRep cx' w' (.own l) v ∧ Gam cx' (h.set l (.rowi t .i64 (Lib.compact xs))) w' := by
  simp only [SRep] at hu
  obtain ⟨hln, rfl⟩ := hu
  have hO := hg.obj l
  have hlh : l < h.length := hg.n ▸ hln
  rw [hgt] at hO
  obtain ⟨h1, h2, h3, h4, h5⟩ := hO
  cases xs with
  | nil =>
    have hset : h.set l (.rowi t .i64 (Lib.compact [])) = h := by
      have hc : (Lib.compact ([] : List Int)) = [] := rfl
      rw [hc, ← hgt]
      unfold hget
      apply List.ext_getElem?
      intro i
      rw [List.getElem?_set]
      split
      · rename_i e; subst e
        simp [hlh, List.getD_eq_getElem?_getD]
      · rfl
    rw [hset]
    simp only [List.length_nil] at h1
    rw [h1]
    refine (Try.slices_Compact_int_empty _ (cx.cp l) w).mono fun e w' ⟨e1, e2⟩ => ?_
    subst e2
    exact ⟨_, cx, e1, Grow.refl _ _ _, by simp [SRep, hln, h1], hg⟩
  | cons x r =>
    generalize hxs : x :: r = xs at *
    have hpos : 0 < xs.length := by rw [← hxs]; simp
    have hq : cx.nl l = false := by
      cases hq : cx.nl l with
      | false => rfl
      | true => have := h4 hq; omega
    obtain ⟨t', c', hb1, hb2, hb3⟩ := h5 hq
    rw [hq, h1]
    have hlive : liv cx h l := by simp [liv, hgt, hq]
    have hcl := Lib.compact_length_le xs
    refine (Try.slices_Compact_int (cx.th l) 0 (cx.cp l) xs w (fun j hj => ?_) hb h3).mono fun e w' ⟨e1, q, e2⟩ => ?_
    · have hj' : j < xs.length := by simpa using hj
      refine ⟨?_, ?_⟩
      · simp only [World.cell?, hb1, Nat.zero_add, Option.isSome_none, Bool.false_eq_true, if_false]
        have := hb3 j hj'
        simp only [getElem!_pos xs.toArray j hj]
        simpa [List.getD_eq_getElem?_getD, hj'] using this
      · simp [World.frozen?, hb1]
    · generalize hys : (Lib.compact xs ++ List.replicate (xs.length - (Lib.compact xs).length) 0).toArray = ys at e2
      have hh : ∀ b : Nat, w'.heap[b]? = (w.heap.modify (cx.th l) (Go.Sort.onCells (Go.Sort.putCells (Value.int .i64) 0 ys)))[b]? := fun b => by rw [e2]; rfl
      have hoth : ∀ b : Nat, b ≠ cx.th l → w'.heap[b]? = w.heap[b]? := fun b hne => by rw [hh]; simp [Array.getElem?_modify, Ne.symm hne]
      have hsz : w'.heap.size = w.heap.size := by rw [e2]; simp [Go.Sort.putRow, Go.Sort.mapBlock, Go.Sort.ahead]
      have hsame : ∀ b : Nat, cx.hd b → w'.heap[b]? = w.heap[b]? := fun b hd => hoth b (fun e => hg.own l hlive (e ▸ hd))
      have hio : Io w w' := ⟨by rw [e2]; rfl, by rw [e2]; rfl, fun a _ => by rw [e2, Go.Sort.frozen?_putRow]; rfl, by omega⟩
      have gr : Grow (Nat.beq l) cx w (cx.re l (cx.th l) (Lib.compact xs).length (cx.cp l) false) w' := Grow.re l _ _ _ _ hsame (by omega) hio
      have hblk : w'.heap[cx.th l]? = some (.cells (Go.Sort.putCells (Value.int .i64) 0 ys c') t' (0, 0)) := by rw [hh]; simp [Array.getElem?_modify, hb1, Go.Sort.onCells]
      have hG := Gam.renew hg hlh gr rfl (fun _ h => h) (fun q hq' hvq => hoth _ (fun e => hq' (hg.inj q l hvq hlive e))) (o' := .rowi t .i64 (Lib.compact xs))
        (by
          simp only [ORep, Cx.re, upd_same]
          refine ⟨trivial, h2, by omega, by simp, fun _ => ⟨t', _, hblk, by simp [Go.Sort.putCells, hb2], fun i hi => ?_⟩⟩
          have hys2 : ys.size = xs.length := by rw [← hys]; simp; omega
          have hic : i < c'.size := by omega
          simp only [Go.Sort.putCells, Array.getElem?_mapIdx, Array.getElem?_eq_getElem hic, Option.map_some]
          rw [if_pos ⟨by omega, by omega⟩, getElem!_pos ys _ (by omega)]
          simp only [← hys, Nat.sub_zero]
          simp [List.getElem_append, hi, List.getD_eq_getElem?_getD])
        (fun _ => by
          simp only [Cx.re, upd_same]
          exact ⟨by rw [hsz]; exact hg.lt l hlive, hg.own l hlive, fun q hq' hvq e => hq' (hg.inj l q hlive hvq e).symm⟩)
      rw [scrubH_no hm] at hG
      exact ⟨_, _, e1, gr, by simp [SRep, Cx.re, hln, ad], hG⟩
theorem g1080 : Good1 Try.prog 62 S1080 := by
  refine ⟨fun Ω => ⟨enter_of Try.func62 (by kernel_rfl) (by kernel_rfl), fun args h k out hs => ?_⟩, fun Ω Ω' => ?_⟩
  · unfold S1080 at hs
    split at hs
    · rename_i l
      split at hs
      · rename_i t xs hgt
        rcases br_some hs with ⟨hb, hs2⟩ | ⟨hb, hs2⟩
        · simp only [Bool.and_eq_true, decide_eq_true_eq, Bool.not_eq_true'] at hb
          refine ⟨_, _, _, _, hs2, ⟨by simp, fun m _ hm => ?_⟩, fun cx w vals hg ha => ?_⟩
          · refine hget_set_ne fun e => ?_
            subst e
            simp [nmem] at hm
          · match vals, ha with
            | [u], ha =>
              simp only [SRepL, and_true] at ha
              refine (compact_own hgt hb.1 hb.2 hg ha).mono fun e w' ⟨v, cx', q1, q2, q3, q4⟩ => ⟨v, cx', q1, q2.weak fun m hm => ?_, q3, q4⟩
              simpa [nmem] using hm
            | [], ha => simp [SRepL] at ha
            | _ :: _ :: _, ha => simp [SRepL] at ha
        · cases hs2
      · cases hs
    · cases hs
  · intro args h k out hs
    unfold S1080 at hs ⊢
    split at hs
    · rename_i l
      split at hs
      · rename_i t xs hgt
        rcases br_some hs with ⟨hb, hs⟩ | ⟨hb, hs⟩
        · exact ⟨_, _, _, _, hs, fun k' => by simp only [hgt, hb, br, cond_true]⟩
        · cases hs
      · cases hs
    · cases hs
end Go.Sx.Pr
