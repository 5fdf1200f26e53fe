/- The pure model: memory, a worker's state, the steps of the layers; packing of words. Plain Lean. -/
import Derived.Test.YtaejdljgfmclpaaGreatSxMem
import Derived.Test.YtaejdljgfmclpaaGreatP1
import Derived.Test.YtaejdljgfmclpaaGreatSxMem
import Derived.Test.YtaejdljgfmclpaaGreatSxMem
import Derived.Test.YtaejdljgfmclpaaGreatRows
import Derived.KernelRfl
set_option linter.all false
set_option linter.unusedVariables false
set_option linter.unusedSimpArgs false
set_option linter.unnecessarySimpa false
namespace Go.Sx.Md
open Go Go.Sx

/-! ### data -/
structure Cf where
  (a b c d e f g l : Int)
structure Ac where
  (k a x y o : Int)
structure Mm where
  c : Cf
  s : Ac
  ws : List Int
structure Wk where
  line : Int
  kind : Int
  opT : Int
  opX : Int
  slab : Int
  use : Bool
  by_ : Int
  nth : Int
  pinned : Bool
  E : Int
  rack : List Int
  t0 : Int
  l0 : List Int
  t1 : Int
  l1 : List Int
  t2 : Int
  l2 : List Int
  hold : List Int
  B : Int
  K : Int
  I : Int
  C : Int
  borrow : Int
  H : Int
  N : Int
  V : Int
  U : Int
  G : Int
  J : Int
  read : List Int
  T : Int
  ret : Int
  give : Bool

def ctsW : List CT := [.i .i64, .i .i64, .i .u64, .i .u64, .i .i64, .b, .i .i64, .i .i64, .b, .i .u64, .s .i64, .i .u64, .s .i64, .i .u64, .s .i64, .i .u64, .s .i64, .s .i64, .i .i64, .i .i64, .i .i64, .i .i64, .i .i64, .i .u64, .i .u64, .i .u64, .i .u64, .i .u64, .i .i64, .s .u64, .i .u64, .i .i64, .b]
abbrev L64 (l : List Int) : SV := .d (.ints .i64 l)
abbrev LU (l : List Int) : SV := .d (.ints .u64 l)

def encT (x : Wk) : List SV := [Sx.I x.kind, Sx.U x.opT, Sx.U x.opX, Sx.I x.slab, Sx.B x.use, Sx.I x.by_, Sx.I x.nth, Sx.B x.pinned, Sx.U x.E, L64 x.rack, Sx.U x.t0, L64 x.l0, Sx.U x.t1, L64 x.l1, Sx.U x.t2, L64 x.l2, L64 x.hold,
  Sx.I x.B, Sx.I x.K, Sx.I x.I, Sx.I x.C, Sx.I x.borrow, Sx.U x.H, Sx.U x.N, Sx.U x.V, Sx.U x.U, Sx.U x.G, Sx.I x.J, LU x.read, Sx.U x.T, Sx.I x.ret, Sx.B x.give]
/-- The cells of a worker's state. -/
def encW (x : Wk) : List SV := Sx.I x.line :: encT x

def ofF (iv : Nat → Int) (bv : Nat → Bool) (sv : Nat → List Int) : Wk :=
  ⟨iv 0, iv 1, iv 2, iv 3, iv 4, bv 5, iv 6, iv 7, bv 8, iv 9, sv 10, iv 11, sv 12, iv 13, sv 14, iv 15, sv 16, sv 17, iv 18, iv 19, iv 20, iv 21, iv 22, iv 23, iv 24, iv 25, iv 26, iv 27, iv 28, sv 29, iv 30, iv 31, bv 32⟩

theorem enc_ofF (iv : Nat → Int) (bv : Nat → Bool) (sv : Nat → List Int) : encW (ofF iv bv sv) = (cellsD ctsW 0 iv bv sv).map .d := rfl

def dv : SV → DV
  | .d x => x
  | _ => .v undef
def decW (c : List SV) : Wk := ofF (fun j => getI (dv (c.getD j .top))) (fun j => getB (dv (c.getD j .top))) (fun j => getS (dv (c.getD j .top)))

/-- Cells of these kinds. -/
def isC : List CT → List SV → Bool
  | [], [] => true
  | .i k :: cs, .d (.v (.int k' _)) :: r => kEq k k' && isC cs r
  | .b :: cs, .d (.v (.bool _)) :: r => isC cs r
  | .s k :: cs, .d (.ints k' _) :: r => kEq k k' && isC cs r
  | _, _ => false

theorem isC_enc : ∀ {cts : List CT} {c : List SV} {j : Nat} {iv : Nat → Int} {bv : Nat → Bool} {sv : Nat → List Int}, isC cts c = true → (∀ i, i < c.length → iv (j + i) = getI (dv (c.getD i .top))) → (∀ i, i < c.length → bv (j + i) = getB (dv (c.getD i .top))) →
    (∀ i, i < c.length → sv (j + i) = getS (dv (c.getD i .top))) → c = (cellsD cts j iv bv sv).map .d
  | [], [], _, _, _, _, _, _, _, _ => rfl
  | [], _ :: _, _, _, _, _, h, _, _, _ => by simp [isC] at h
  | c :: _, [], _, _, _, _, h, _, _, _ => by cases c <;> simp [isC] at h
  | c :: cs, x :: r, j, iv, bv, sv, h, h1, h2, h3 => by
    unfold isC at h
    split at h
    · rename_i e _; cases e
    · rename_i e1 e2
      cases e1; cases e2
      simp only [Bool.and_eq_true] at h
      have := kEq_eq h.1
      subst this
      have e1 := h1 0 (by simp)
      simp only [Nat.add_zero, List.getD_cons_zero, dv, getI] at e1
      simp only [cellsD, List.map_cons, e1]
      rw [← isC_enc (j := j + 1) (iv := iv) (bv := bv) (sv := sv) h.2 (fun i hi => by have := h1 (i + 1) (by simpa using hi); rw [show j + 1 + i = j + (i + 1) by omega]; simpa using this)
        (fun i hi => by have := h2 (i + 1) (by simpa using hi); rw [show j + 1 + i = j + (i + 1) by omega]; simpa using this)
        (fun i hi => by have := h3 (i + 1) (by simpa using hi); rw [show j + 1 + i = j + (i + 1) by omega]; simpa using this)]
    · rename_i e1 e2
      cases e1; cases e2
      have e1 := h2 0 (by simp)
      simp only [Nat.add_zero, List.getD_cons_zero, dv, getB] at e1
      simp only [cellsD, List.map_cons, e1]
      rw [← isC_enc (j := j + 1) (iv := iv) (bv := bv) (sv := sv) h (fun i hi => by have := h1 (i + 1) (by simpa using hi); rw [show j + 1 + i = j + (i + 1) by omega]; simpa using this)
        (fun i hi => by have := h2 (i + 1) (by simpa using hi); rw [show j + 1 + i = j + (i + 1) by omega]; simpa using this)
        (fun i hi => by have := h3 (i + 1) (by simpa using hi); rw [show j + 1 + i = j + (i + 1) by omega]; simpa using this)]
    · rename_i e1 e2
      cases e1; cases e2
      simp only [Bool.and_eq_true] at h
      have := kEq_eq h.1
      subst this
      have e1 := h3 0 (by simp)
      simp only [Nat.add_zero, List.getD_cons_zero, dv, getS] at e1
      simp only [cellsD, List.map_cons, e1]
      rw [← isC_enc (j := j + 1) (iv := iv) (bv := bv) (sv := sv) h.2 (fun i hi => by have := h1 (i + 1) (by simpa using hi); rw [show j + 1 + i = j + (i + 1) by omega]; simpa using this)
        (fun i hi => by have := h2 (i + 1) (by simpa using hi); rw [show j + 1 + i = j + (i + 1) by omega]; simpa using this)
        (fun i hi => by have := h3 (i + 1) (by simpa using hi); rw [show j + 1 + i = j + (i + 1) by omega]; simpa using this)]
    · cases h

theorem enc_decW {c : List SV} (h : isC ctsW c = true) : encW (decW c) = c := by
  unfold decW
  rw [enc_ofF]
  exact (isC_enc h (fun i _ => by simp) (fun i _ => by simp) (fun i _ => by simp)).symm
end Go.Sx.Md

/- Words put together of fields, and taken apart. -/
namespace Go.Sx

theorem bor_add {a b : Int} {n : Nat} (ha : 0 ≤ a) (ha2 : a < 18446744073709551616) (hd : a % (2 ^ n : Nat) = 0) (hb : 0 ≤ b) (hb2 : b < (2 ^ n : Nat)) (hs : a + b < 18446744073709551616) : bor .u64 a b = a + b := by
  obtain ⟨A, rfl⟩ := Int.eq_ofNat_of_zero_le ha
  obtain ⟨B, rfl⟩ := Int.eq_ofNat_of_zero_le hb
  have hA : A % 2 ^ n = 0 := by exact_mod_cast hd
  have hB : B < 2 ^ n := by exact_mod_cast hb2
  unfold bor
  rw [show IntKind.bits .u64 = 64 from rfl, BitVec.toNat_or, BitVec.toNat_ofInt, BitVec.toNat_ofInt]
  have e1 : (((A : Int) % ((2 ^ 64 : Nat) : Int)).toNat) = A := by omega
  have e2 : (((B : Int) % ((2 ^ 64 : Nat) : Int)).toNat) = B := by omega
  rw [e1, e2]
  have e3 : A ||| B = A + B := by
    have h := Nat.shiftLeft_add_eq_or_of_lt hB (A / 2 ^ n)
    rw [Nat.shiftLeft_eq, Nat.div_mul_cancel (Nat.dvd_of_mod_eq_zero hA)] at h
    exact h.symm
  rw [e3, IntKind.wrap_u64]
  omega

theorem band_one {a : Int} (ha : 0 ≤ a) (ha2 : a < 18446744073709551616) : band .u64 a 1 = a % 2 := by
  obtain ⟨A, rfl⟩ := Int.eq_ofNat_of_zero_le ha
  unfold band
  rw [show IntKind.bits .u64 = 64 from rfl, BitVec.toNat_and, BitVec.toNat_ofInt, BitVec.toNat_ofInt]
  have e1 : (((A : Int) % ((2 ^ 64 : Nat) : Int)).toNat) = A := by omega
  have e2 : (((1 : Int) % ((2 ^ 64 : Nat) : Int)).toNat) = 1 := by decide
  rw [e1, e2, Nat.and_one_is_mod, IntKind.wrap_u64]
  omega

theorem pow2_pos (n : Nat) : (0 : Int) < 2 ^ n := by
  have : (0 : Nat) < 2 ^ n := Nat.pos_of_ne_zero (by simp)
  exact_mod_cast this

theorem shr_div {k : IntKind} {a : Int} {n : Nat} (h : n ≤ k.bits) : shr k a (n : Int) = a / 2 ^ n := by
  unfold shr
  rw [show min ((n : Int).toNat) k.bits = n by simp; omega]
  rw [Int.fdiv_eq_ediv_of_nonneg _ (Int.le_of_lt (pow2_pos n))]

theorem shl_mul {k : IntKind} {a : Int} {n : Nat} (h : n ≤ k.bits) : shl k a (n : Int) = k.wrap (a * 2 ^ n) := by
  unfold shl
  rw [show min ((n : Int).toNat) k.bits = n by simp; omega]

/-! ### the packed words -/
def pHead (p v : Int) : Int := v % 4294967296 * 4294967296 + (p + 1) % 4294967296
def pEntry (g b s : Int) : Int := g % 17592186044416 * 1048576 + ((b + 1) % 65536 * 16 + s % 16)
def pAnn (e : Int) (a : Bool) : Int := e % 9223372036854775808 * 2 + bif a then 1 else 0
def pSlab (s p t : Int) : Int := t % 281474976710656 * 65536 + (p % 4096 * 16 + s % 16)
def pTicket (e g : Int) : Int := g % 281474976710656 * 65536 + (e + 1) % 65536
end Go.Sx

/- The pure model: memory's operations, the steps of the layers. -/
namespace Go.Sx.Pr
open Go Go.Sx Go.Sx.Md

/-! ### memory -/
def ac0 : Ac := ⟨0, 0, 0, 0, 0⟩
def Mm.ok (m : Mm) (a : Int) : Bool := inB a m.ws.length
def Mm.get (m : Mm) (a : Int) : Int := m.ws.getD a.toNat 0
def mSee (m : Mm) (k a x y : Int) : Ac := bif Mm.ok m a then ⟨k, a, x, y, Mm.get m a⟩ else ac0
def mSet (m : Mm) (g : Bool) (a x : Int) : List Int := bif g then m.ws.set a.toNat x else m.ws
def mLoadV (m : Mm) (a : Int) : Int := bif Mm.ok m a then Mm.get m a else 0
def mLoad (m : Mm) (a : Int) : Mm := { m with s := mSee m 1 a 0 0 }
def mStore (m : Mm) (a x : Int) : Mm := { m with s := mSee m 2 a x 0, ws := mSet m (Mm.ok m a) a x }
def mCasB (m : Mm) (a x : Int) : Bool := Mm.ok m a && (Mm.get m a == x)
def mCas (m : Mm) (a x y : Int) : Mm := { m with s := mSee m 3 a x y, ws := mSet m (mCasB m a x) a y }
def mAdd (m : Mm) (a x : Int) : Mm := { m with s := mSee m 4 a x 0, ws := mSet m (Mm.ok m a) a (IntKind.wrap .u64 (Mm.get m a + x)) }
def mClear (m : Mm) : Mm := { m with s := ac0 }
def chkC (c : Cf) : Int := chk c.a c.b c.c c.d c.e c.f c.g c.l
/-! ### what a step answers -/
structure SR where
  m : Mm
  x : Wk
  way : Int
  ok : Bool

/-! ### layer 7 -/
/-! ### layer 6 -/
/-! ### layer 8 -/
def readyV (w e : Int) : Bool := (w % 16 == 0) || ((w % 16 == 3) && (decide (2 ≤ e) && decide (w / 65536 ≤ e - 2)))
/-- The slab of a block. -/
def homeV (c : Cf) (b : Int) : Int := bif (chkC c == 0) && (decide (0 ≤ b) && decide (b < c.b * c.c)) then b / c.c else -1
/-! ### layer 11 -/
end Go.Sx.Pr

namespace Go.Sx.Pr
open Go Go.Sx Go.Proofs
set_option maxRecDepth 100000
/-- coatcheck/pack.Unhead -/
def C118 : CF := ⟨1, [(2, none), (3, none)],
 .seq (.reg false [⟨some 2, .mv (.c (.d (.v (.int .i64 0)))), none, 0⟩,
   ⟨some 3, .mv (.c (.d (.v (.int .u64 0)))), none, 0⟩])
 (.seq (.reg false [⟨some 4, .mv (.t 0), none, 0⟩,
   ⟨some 5, .conv .u32 (.t 4), none, 0⟩,
   ⟨some 6, .conv .i64 (.t 5), none, 0⟩,
   ⟨some 7, .bin .sub (.t 6) (.c (.d (.v (.int .i64 1)))), none, 0⟩,
   ⟨some 8, .mv (.t 0), none, 0⟩,
   ⟨some 9, .bin .shr (.t 8) (.c (.d (.v (.int .u64 32)))), none, 0⟩,
   ⟨some 2, .mv (.t 7), none, 0⟩,
   ⟨some 3, .mv (.t 9), none, 0⟩])
 (.ret))⟩
theorem c118 : coF Tryz.prog Tryz.f165 = some C118 := by kernel_rfl
def A118 : Ann := { keep := [0, 2, 3], live := [] }
def E118 {Ω : Type} : Env Ω := enil
theorem e118 : GoodE Tryz.prog E118 := GoodE.nil
/-- coatcheck/pack.Announce -/
def C121 : CF := ⟨2, [(4, none)],
 .seq (.reg false [⟨some 4, .mv (.c (.d (.v (.int .u64 0)))), none, 0⟩])
 (.seq (.seq (.reg false [⟨some 5, .mv (.t 1), none, 0⟩])
 (.cond 5 (.seq (.reg false [⟨some 6, .mv (.t 0), none, 0⟩,
     ⟨some 7, .bin .shl (.t 6) (.c (.d (.v (.int .u64 1)))), none, 0⟩,
     ⟨some 8, .bin .or (.t 7) (.c (.d (.v (.int .u64 1)))), none, 0⟩,
     ⟨some 4, .mv (.t 8), none, 0⟩])
   (.ret))
   (.skip)))
 (.seq (.reg false [⟨some 9, .mv (.t 0), none, 0⟩,
   ⟨some 10, .bin .shl (.t 9) (.c (.d (.v (.int .u64 1)))), none, 0⟩,
   ⟨some 4, .mv (.t 10), none, 0⟩])
 (.ret)))⟩
theorem c121 : coF Tryz.prog Tryz.f151 = some C121 := by kernel_rfl
def A121 : Ann := { keep := [0, 1, 4, 5], live := [] }
def E121 {Ω : Type} : Env Ω := enil
theorem e121 : GoodE Tryz.prog E121 := GoodE.nil
/-- coatcheck/pack.Unannounce -/
def C87 : CF := ⟨1, [(2, none), (3, none)],
 .seq (.reg false [⟨some 2, .mv (.c (.d (.v (.int .u64 0)))), none, 0⟩,
   ⟨some 3, .mv (.c (.d (.v (.bool false)))), none, 0⟩])
 (.seq (.reg false [⟨some 4, .mv (.t 0), none, 0⟩,
   ⟨some 5, .bin .shr (.t 4) (.c (.d (.v (.int .u64 1)))), none, 0⟩,
   ⟨some 6, .mv (.t 0), none, 0⟩,
   ⟨some 7, .bin .and (.t 6) (.c (.d (.v (.int .u64 1)))), none, 0⟩,
   ⟨some 8, .eq .int false (.t 7) (.c (.d (.v (.int .u64 1)))), none, 0⟩,
   ⟨some 2, .mv (.t 5), none, 0⟩,
   ⟨some 3, .mv (.t 8), none, 0⟩])
 (.ret))⟩
theorem c87 : coF Tryz.prog Tryz.f118 = some C87 := by kernel_rfl
def A87 : Ann := { keep := [0, 2, 3], live := [] }
def E87 {Ω : Type} : Env Ω := enil
theorem e87 : GoodE Tryz.prog E87 := GoodE.nil
/-- coatcheck/pack.Slab -/
def C97 : CF := ⟨3, [(6, none)],
 .seq (.reg false [⟨some 6, .mv (.c (.d (.v (.int .u64 0)))), none, 0⟩])
 (.seq (.reg false [⟨some 7, .mv (.t 2), none, 0⟩,
   ⟨some 8, .bin .shl (.t 7) (.c (.d (.v (.int .u64 16)))), none, 0⟩,
   ⟨some 9, .mv (.t 1), none, 0⟩,
   ⟨some 10, .conv .u16 (.t 9), none, 0⟩,
   ⟨some 11, .bin .shl (.t 10) (.c (.d (.v (.int .u64 4)))), none, 0⟩,
   ⟨some 12, .conv .u64 (.t 11), none, 0⟩,
   ⟨some 13, .bin .or (.t 8) (.t 12), none, 0⟩,
   ⟨some 14, .mv (.t 0), none, 0⟩,
   ⟨some 15, .conv .u8 (.t 14), none, 0⟩,
   ⟨some 16, .bin .shl (.t 15) (.c (.d (.v (.int .u64 4)))), none, 0⟩,
   ⟨some 17, .bin .shr (.t 16) (.c (.d (.v (.int .u64 4)))), none, 0⟩,
   ⟨some 18, .conv .u64 (.t 17), none, 0⟩,
   ⟨some 19, .bin .or (.t 13) (.t 18), none, 0⟩,
   ⟨some 6, .mv (.t 19), none, 0⟩])
 (.ret))⟩
theorem c97 : coF Tryz.prog Tryz.f128 = some C97 := by kernel_rfl
def A97 : Ann := { keep := [0, 1, 2, 6], live := [] }
def E97 {Ω : Type} : Env Ω := enil
theorem e97 : GoodE Tryz.prog E97 := GoodE.nil
/-- coatcheck/pack.Unslab -/
def C94 : CF := ⟨1, [(2, none), (3, none), (4, none)],
 .seq (.reg false [⟨some 2, .mv (.c (.d (.v (.int .i64 0)))), none, 0⟩,
   ⟨some 3, .mv (.c (.d (.v (.int .i64 0)))), none, 0⟩,
   ⟨some 4, .mv (.c (.d (.v (.int .u64 0)))), none, 0⟩])
 (.seq (.reg false [⟨some 5, .mv (.t 0), none, 0⟩,
   ⟨some 6, .conv .u8 (.t 5), none, 0⟩,
   ⟨some 7, .bin .shl (.t 6) (.c (.d (.v (.int .u64 4)))), none, 0⟩,
   ⟨some 8, .bin .shr (.t 7) (.c (.d (.v (.int .u64 4)))), none, 0⟩,
   ⟨some 9, .conv .i64 (.t 8), none, 0⟩,
   ⟨some 10, .mv (.t 0), none, 0⟩,
   ⟨some 11, .conv .u16 (.t 10), none, 0⟩,
   ⟨some 12, .bin .shr (.t 11) (.c (.d (.v (.int .u64 4)))), none, 0⟩,
   ⟨some 13, .conv .i64 (.t 12), none, 0⟩,
   ⟨some 14, .mv (.t 0), none, 0⟩,
   ⟨some 15, .bin .shr (.t 14) (.c (.d (.v (.int .u64 16)))), none, 0⟩,
   ⟨some 2, .mv (.t 9), none, 0⟩,
   ⟨some 3, .mv (.t 13), none, 0⟩,
   ⟨some 4, .mv (.t 15), none, 0⟩])
 (.ret))⟩
theorem c94 : coF Tryz.prog Tryz.f124 = some C94 := by kernel_rfl
def A94 : Ann := { keep := [0, 2, 3, 4], live := [] }
def E94 {Ω : Type} : Env Ω := enil
theorem e94 : GoodE Tryz.prog E94 := GoodE.nil
end Go.Sx.Pr

/- Packing of words: what both layers' functions answer, in numbers. -/
namespace Go.Sx.Pr
open Go Go.Sx Go.Proofs
set_option maxRecDepth 100000

def uB (x : Int) : Bool := decide (0 ≤ x) && decide (x ≤ 18446744073709551615)
theorem uB_iff {x : Int} : uB x = true ↔ 0 ≤ x ∧ x ≤ 18446744073709551615 := by simp [uB]
theorem lenAs_cons {t : AT} {ts : List AT} {L : List (List Int)} (h : lenAs (t :: ts) L) : ∃ a r, L = a :: r ∧ lenA t a.length ∧ lenAs ts r := h
theorem lenAs_nil {L : List (List Int)} (h : lenAs [] L) : L = [] := h

theorem shrU {a : Int} (n : Nat) (h : n ≤ 64) : shr .u64 a (n : Int) = a / 2 ^ n := shr_div h
theorem sh32 (w : Int) : shr .u64 w 32 = w / 4294967296 := shrU 32 (by decide)
theorem sh20 (w : Int) : shr .u64 w 20 = w / 1048576 := shrU 20 (by decide)
theorem sh16 (w : Int) : shr .u64 w 16 = w / 65536 := shrU 16 (by decide)
theorem sh4 (w : Int) : shr .u64 w 4 = w / 16 := shrU 4 (by decide)
theorem sh1 (w : Int) : shr .u64 w 1 = w / 2 := shrU 1 (by decide)
theorem sh4_16 (w : Int) : shr .u16 w 4 = w / 16 := shr_div (k := .u16) (n := 4) (by decide)
theorem low4 (w : Int) : shr .u8 (shl .u8 (IntKind.wrap .u8 w) 4) 4 = w % 16 := by
  have h1 : shl .u8 (IntKind.wrap .u8 w) 4 = IntKind.wrap .u8 (IntKind.wrap .u8 w * 16) := shl_mul (k := .u8) (n := 4) (by decide)
  have h2 : ∀ a, shr .u8 a 4 = a / 16 := fun a => shr_div (k := .u8) (n := 4) (by decide)
  rw [h2, h1]
  simp only [IntKind.wrap_u8]
  omega
theorem sl32 (w : Int) : shl .u64 w 32 = w % 4294967296 * 4294967296 := by
  have h1 : shl .u64 w 32 = IntKind.wrap .u64 (w * 4294967296) := shl_mul (k := .u64) (n := 32) (by decide)
  rw [h1, IntKind.wrap_u64]; omega
theorem sl20 (w : Int) : shl .u64 w 20 = w % 17592186044416 * 1048576 := by
  have h1 : shl .u64 w 20 = IntKind.wrap .u64 (w * 1048576) := shl_mul (k := .u64) (n := 20) (by decide)
  rw [h1, IntKind.wrap_u64]; omega
theorem sl16 (w : Int) : shl .u64 w 16 = w % 281474976710656 * 65536 := by
  have h1 : shl .u64 w 16 = IntKind.wrap .u64 (w * 65536) := shl_mul (k := .u64) (n := 16) (by decide)
  rw [h1, IntKind.wrap_u64]; omega
theorem sl1 (w : Int) : shl .u64 w 1 = w % 9223372036854775808 * 2 := by
  have h1 : shl .u64 w 1 = IntKind.wrap .u64 (w * 2) := shl_mul (k := .u64) (n := 1) (by decide)
  rw [h1, IntKind.wrap_u64]; omega
theorem sl4_16 (w : Int) : IntKind.wrap .u64 (shl .u16 (IntKind.wrap .u16 w) 4) = w % 4096 * 16 := by
  have h1 : ∀ a, shl .u16 a 4 = IntKind.wrap .u16 (a * 16) := fun a => shl_mul (k := .u16) (n := 4) (by decide)
  rw [h1]; simp only [IntKind.wrap_u64, IntKind.wrap_u16]; omega

theorem bHead (p v : Int) : bor .u64 (shl .u64 v 32) (IntKind.wrap .u64 (IntKind.wrap .u32 (IntKind.wrap .i64 (p + 1)))) = pHead p v := by
  rw [sl32]
  have e : IntKind.wrap .u64 (IntKind.wrap .u32 (IntKind.wrap .i64 (p + 1))) = (p + 1) % 4294967296 := by simp only [IntKind.wrap_u64, IntKind.wrap_u32, IntKind.wrap_i64]; omega
  rw [e, bor_add (n := 32) (by omega) (by omega) (by omega) (by omega) (by omega) (by omega)]
  rfl
theorem bAnn (w : Int) : bor .u64 (shl .u64 w 1) 1 = w % 9223372036854775808 * 2 + 1 := by
  rw [sl1, bor_add (n := 1) (by omega) (by omega) (by omega) (by omega) (by omega) (by omega)]
theorem bSlab (s p t : Int) : bor .u64 (bor .u64 (shl .u64 t 16) (IntKind.wrap .u64 (shl .u16 (IntKind.wrap .u16 p) 4))) (IntKind.wrap .u64 (shr .u8 (shl .u8 (IntKind.wrap .u8 s) 4) 4)) = pSlab s p t := by
  rw [sl16, sl4_16, low4]
  have e : IntKind.wrap .u64 (s % 16) = s % 16 := by rw [IntKind.wrap_u64]; omega
  have e2 : bor .u64 (t % 281474976710656 * 65536) (p % 4096 * 16) = t % 281474976710656 * 65536 + p % 4096 * 16 := bor_add (n := 16) (by omega) (by omega) (by omega) (by omega) (by omega) (by omega)
  rw [e, e2, bor_add (n := 4) (by omega) (by omega) (by omega) (by omega) (by omega) (by omega)]
  unfold pSlab; omega
theorem bEntry (g b s : Int) : bor .u64 (bor .u64 (shl .u64 g 20) (shl .u64 (IntKind.wrap .u64 (IntKind.wrap .u16 (IntKind.wrap .i64 (b + 1)))) 4)) (IntKind.wrap .u64 (shr .u8 (shl .u8 (IntKind.wrap .u8 s) 4) 4)) = pEntry g b s := by
  have h4 : shl .u64 (IntKind.wrap .u64 (IntKind.wrap .u16 (IntKind.wrap .i64 (b + 1)))) 4 = (b + 1) % 65536 * 16 := by
    have h1 : ∀ a, shl .u64 a 4 = IntKind.wrap .u64 (a * 16) := fun a => shl_mul (k := .u64) (n := 4) (by decide)
    rw [h1]; simp only [IntKind.wrap_u64, IntKind.wrap_u16, IntKind.wrap_i64]; omega
  rw [sl20, h4, low4]
  have e : IntKind.wrap .u64 (s % 16) = s % 16 := by rw [IntKind.wrap_u64]; omega
  have e2 : bor .u64 (g % 17592186044416 * 1048576) ((b + 1) % 65536 * 16) = g % 17592186044416 * 1048576 + (b + 1) % 65536 * 16 := bor_add (n := 20) (by omega) (by omega) (by omega) (by omega) (by omega) (by omega)
  rw [e, e2, bor_add (n := 4) (by omega) (by omega) (by omega) (by omega) (by omega) (by omega)]
  unfold pEntry; omega
theorem bTicket (e g : Int) : bor .u64 (shl .u64 g 16) (IntKind.wrap .u64 (IntKind.wrap .u16 (IntKind.wrap .i64 (e + 1)))) = pTicket e g := by
  rw [sl16]
  have h : IntKind.wrap .u64 (IntKind.wrap .u16 (IntKind.wrap .i64 (e + 1))) = (e + 1) % 65536 := by simp only [IntKind.wrap_u64, IntKind.wrap_u16, IntKind.wrap_i64]; omega
  rw [h, bor_add (n := 16) (by omega) (by omega) (by omega) (by omega) (by omega) (by omega)]
  rfl
theorem n118 {Ω : Type} (K : SV → SH → Option Ω) (w : Int) :
    sxFn E118 A118 C118 [U w] [] K =
    K (.tup [I (IntKind.wrap .i64 (IntKind.wrap .i64 (IntKind.wrap .u32 w) - 1)), U (shr .u64 w 32)]) [] := by kernel_rfl
theorem n121 {Ω : Type} (K : SV → SH → Option Ω) (w : Int) (b : Bool) :
    sxFn E121 A121 C121 [U w, B b] [] K =
    br b (K (U (bor .u64 (shl .u64 w 1) 1)) []) (K (U (shl .u64 w 1)) []) := by kernel_rfl
theorem n87 {Ω : Type} (K : SV → SH → Option Ω) (w : Int) :
    sxFn E87 A87 C87 [U w] [] K =
    K (.tup [U (shr .u64 w 1), B (band .u64 w 1 == 1)]) [] := by kernel_rfl
theorem n97 {Ω : Type} (K : SV → SH → Option Ω) (s p t : Int) :
    sxFn E97 A97 C97 [I s, I p, U t] [] K =
    K (U (bor .u64 (bor .u64 (shl .u64 t 16) (IntKind.wrap .u64 (shl .u16 (IntKind.wrap .u16 p) 4))) (IntKind.wrap .u64 (shr .u8 (shl .u8 (IntKind.wrap .u8 s) 4) 4)))) [] := by kernel_rfl
theorem n94 {Ω : Type} (K : SV → SH → Option Ω) (w : Int) :
    sxFn E94 A94 C94 [U w] [] K =
    K (.tup [I (IntKind.wrap .i64 (shr .u8 (shl .u8 (IntKind.wrap .u8 w) 4) 4)), I (IntKind.wrap .i64 (shr .u16 (IntKind.wrap .u16 w) 4)), U (shr .u64 w 16)]) [] := by kernel_rfl
theorem n109 {Ω : Type} (K : SV → SH → Option Ω) (p v : Int) :
    sxFn E109 A109 C109 [I p, U v] [] K =
    K (U (bor .u64 (shl .u64 v 32) (IntKind.wrap .u64 (IntKind.wrap .u32 (IntKind.wrap .i64 (p + 1)))))) [] := by kernel_rfl
theorem n110 {Ω : Type} (K : SV → SH → Option Ω) (g b s : Int) :
    sxFn E110 A110 C110 [U g, I b, I s] [] K =
    K (U (bor .u64 (bor .u64 (shl .u64 g 20) (shl .u64 (IntKind.wrap .u64 (IntKind.wrap .u16 (IntKind.wrap .i64 (b + 1)))) 4)) (IntKind.wrap .u64 (shr .u8 (shl .u8 (IntKind.wrap .u8 s) 4) 4)))) [] := by kernel_rfl
theorem v109 {p v : Int} (hv : 0 ≤ v ∧ v ≤ 18446744073709551615) : sxFn E109 A109 C109 [I p, U v] [] KS = some (U (pHead p v), []) := by
  rw [n109]
  rw [bHead]
def FP109 : List (List Int) → Option (Bool × SV × SH)
  | [[p], [v]] => some (uB v, U (pHead p v), [])
  | _ => none
def S109c {Ω : Type} : Spec Ω := conSpec [.i .i64, .i .u64] FP109
theorem g109c : Good1 Tryz.prog 69 S109c := conGood Tryz.func69 (by kernel_rfl) c109 e109 mix (A := A109) fun L r hr hl hF => by
  obtain ⟨q0, l0, rfl, z0, hl1⟩ := lenAs_cons hl
  obtain ⟨p, rfl⟩ := one_of' z0
  obtain ⟨q1, l1, rfl, z1, hl2⟩ := lenAs_cons hl1
  obtain ⟨v, rfl⟩ := one_of' z1
  have hz := lenAs_nil hl2
  subst hz
  simp only [FP109, Option.some.injEq, Prod.mk.injEq, Bool.and_eq_true, uB_iff] at hF
  obtain ⟨hu, rfl, rfl⟩ := hF
  exact ⟨trivial, trivial, _, trim_none rfl _, v109 hu⟩
theorem v110 {g b s : Int} (hg : 0 ≤ g ∧ g ≤ 18446744073709551615) : sxFn E110 A110 C110 [U g, I b, I s] [] KS = some (U (pEntry g b s), []) := by
  rw [n110]
  rw [bEntry]
def FP110 : List (List Int) → Option (Bool × SV × SH)
  | [[g], [b], [s]] => some (uB g, U (pEntry g b s), [])
  | _ => none
def S110c {Ω : Type} : Spec Ω := conSpec [.i .u64, .i .i64, .i .i64] FP110
theorem g110c : Good1 Tryz.prog 70 S110c := conGood Tryz.func70 (by kernel_rfl) c110 e110 mix (A := A110) fun L r hr hl hF => by
  obtain ⟨q0, l0, rfl, z0, hl1⟩ := lenAs_cons hl
  obtain ⟨g, rfl⟩ := one_of' z0
  obtain ⟨q1, l1, rfl, z1, hl2⟩ := lenAs_cons hl1
  obtain ⟨b, rfl⟩ := one_of' z1
  obtain ⟨q2, l2, rfl, z2, hl3⟩ := lenAs_cons hl2
  obtain ⟨s, rfl⟩ := one_of' z2
  have hz := lenAs_nil hl3
  subst hz
  simp only [FP110, Option.some.injEq, Prod.mk.injEq, Bool.and_eq_true, uB_iff] at hF
  obtain ⟨hu, rfl, rfl⟩ := hF
  exact ⟨trivial, trivial, _, trim_none rfl _, v110 hu⟩
theorem v118 {w : Int} (hw : 0 ≤ w ∧ w ≤ 18446744073709551615) : sxFn E118 A118 C118 [U w] [] KS = some (.tup [I (w % 4294967296 - 1), U (w / 4294967296)], []) := by
  rw [n118]
  rw [sh32]
  rw [show IntKind.wrap .i64 (IntKind.wrap .i64 (IntKind.wrap .u32 w) - 1) = w % 4294967296 - 1 by simp only [IntKind.wrap_u64, IntKind.wrap_i64, IntKind.wrap_u32, IntKind.wrap_u16, pHead, pEntry, pAnn, pSlab, pTicket, cond_true, cond_false]; omega]
def FP118 : List (List Int) → Option (Bool × SV × SH)
  | [[w]] => some (uB w, .tup [I (w % 4294967296 - 1), U (w / 4294967296)], [])
  | _ => none
def S118c {Ω : Type} : Spec Ω := conSpec [.i .u64] FP118
theorem g118c : Good1 Tryz.prog 165 S118c := conGood Tryz.func165 (by kernel_rfl) c118 e118 mix (A := A118) fun L r hr hl hF => by
  obtain ⟨q0, l0, rfl, z0, hl1⟩ := lenAs_cons hl
  obtain ⟨w, rfl⟩ := one_of' z0
  have hz := lenAs_nil hl1
  subst hz
  simp only [FP118, Option.some.injEq, Prod.mk.injEq, Bool.and_eq_true, uB_iff] at hF
  obtain ⟨hu, rfl, rfl⟩ := hF
  exact ⟨⟨trivial, trivial, trivial⟩, trivial, _, trim_none rfl _, v118 hu⟩
theorem v87 {w : Int} (hw : 0 ≤ w ∧ w ≤ 18446744073709551615) : sxFn E87 A87 C87 [U w] [] KS = some (.tup [U (w / 2), B (w % 2 == 1)], []) := by
  rw [n87]
  rw [sh1]
  rw [band_one (by omega) (by omega)]
def FP87 : List (List Int) → Option (Bool × SV × SH)
  | [[w]] => some (uB w, .tup [U (w / 2), B (w % 2 == 1)], [])
  | _ => none
def S87c {Ω : Type} : Spec Ω := conSpec [.i .u64] FP87
theorem g87c : Good1 Tryz.prog 118 S87c := conGood Tryz.func118 (by kernel_rfl) c87 e87 mix (A := A87) fun L r hr hl hF => by
  obtain ⟨q0, l0, rfl, z0, hl1⟩ := lenAs_cons hl
  obtain ⟨w, rfl⟩ := one_of' z0
  have hz := lenAs_nil hl1
  subst hz
  simp only [FP87, Option.some.injEq, Prod.mk.injEq, Bool.and_eq_true, uB_iff] at hF
  obtain ⟨hu, rfl, rfl⟩ := hF
  exact ⟨⟨trivial, trivial, trivial⟩, trivial, _, trim_none rfl _, v87 hu⟩
theorem v97 {s p t : Int} (ht : 0 ≤ t ∧ t ≤ 18446744073709551615) : sxFn E97 A97 C97 [I s, I p, U t] [] KS = some (U (pSlab s p t), []) := by
  rw [n97]
  rw [bSlab]
def FP97 : List (List Int) → Option (Bool × SV × SH)
  | [[s], [p], [t]] => some (uB t, U (pSlab s p t), [])
  | _ => none
def S97c {Ω : Type} : Spec Ω := conSpec [.i .i64, .i .i64, .i .u64] FP97
theorem g97c : Good1 Tryz.prog 128 S97c := conGood Tryz.func128 (by kernel_rfl) c97 e97 mix (A := A97) fun L r hr hl hF => by
  obtain ⟨q0, l0, rfl, z0, hl1⟩ := lenAs_cons hl
  obtain ⟨s, rfl⟩ := one_of' z0
  obtain ⟨q1, l1, rfl, z1, hl2⟩ := lenAs_cons hl1
  obtain ⟨p, rfl⟩ := one_of' z1
  obtain ⟨q2, l2, rfl, z2, hl3⟩ := lenAs_cons hl2
  obtain ⟨t, rfl⟩ := one_of' z2
  have hz := lenAs_nil hl3
  subst hz
  simp only [FP97, Option.some.injEq, Prod.mk.injEq, Bool.and_eq_true, uB_iff] at hF
  obtain ⟨hu, rfl, rfl⟩ := hF
  exact ⟨trivial, trivial, _, trim_none rfl _, v97 hu⟩
theorem v94 {w : Int} (hw : 0 ≤ w ∧ w ≤ 18446744073709551615) : sxFn E94 A94 C94 [U w] [] KS = some (.tup [I (w % 16), I (w / 16 % 4096), U (w / 65536)], []) := by
  rw [n94]
  rw [sh16]
  rw [sh4_16]
  rw [low4]
  rw [show IntKind.wrap .i64 (w % 16) = w % 16 by simp only [IntKind.wrap_u64, IntKind.wrap_i64, IntKind.wrap_u32, IntKind.wrap_u16, pHead, pEntry, pAnn, pSlab, pTicket, cond_true, cond_false]; omega]
  rw [show IntKind.wrap .i64 (IntKind.wrap .u16 w / 16) = w / 16 % 4096 by simp only [IntKind.wrap_u64, IntKind.wrap_i64, IntKind.wrap_u32, IntKind.wrap_u16, pHead, pEntry, pAnn, pSlab, pTicket, cond_true, cond_false]; omega]
def FP94 : List (List Int) → Option (Bool × SV × SH)
  | [[w]] => some (uB w, .tup [I (w % 16), I (w / 16 % 4096), U (w / 65536)], [])
  | _ => none
def S94c {Ω : Type} : Spec Ω := conSpec [.i .u64] FP94
theorem g94c : Good1 Tryz.prog 124 S94c := conGood Tryz.func124 (by kernel_rfl) c94 e94 mix (A := A94) fun L r hr hl hF => by
  obtain ⟨q0, l0, rfl, z0, hl1⟩ := lenAs_cons hl
  obtain ⟨w, rfl⟩ := one_of' z0
  have hz := lenAs_nil hl1
  subst hz
  simp only [FP94, Option.some.injEq, Prod.mk.injEq, Bool.and_eq_true, uB_iff] at hF
  obtain ⟨hu, rfl, rfl⟩ := hF
  exact ⟨⟨trivial, trivial, trivial, trivial⟩, trivial, _, trim_none rfl _, v94 hu⟩
end Go.Sx.Pr

namespace Go.Sx.Pr
open Go Go.Sx Go.Proofs
set_option maxRecDepth 100000
def K66_1 : CC := .seq (.reg true [⟨some 25, .mv (.t 0), none, 0⟩,
   ⟨some 26, .nilc (.t 25), none, 1⟩,
   ⟨some 27, .fa 13 (.t 26), none, 3⟩,
   ⟨some 28, .ld 1 false (.t 27), none, 7⟩,
   ⟨some 29, .fa 1 (.t 3), none, 0⟩,
   ⟨some 30, .ld 1 false (.t 29), none, 16⟩,
   ⟨some 31, .ixs 1 (.t 28) (.t 30), none, 63⟩,
   ⟨some 5, .mv (.t 31), none, 127⟩])
 (.seq (.reg false [⟨some 32, .mv (.t 0), none, 0⟩,
   ⟨some 33, .ld 5 true (.t 3), none, 0⟩,
   ⟨some 34, .nilc (.t 32), none, 0⟩,
   ⟨some 35, .fa 8 (.t 34), none, 0⟩,
   ⟨none, .st 5 (.t 35) (.t 33), none, 0⟩])
 (.seq (.reg false [⟨some 36, .mv (.t 0), none, 0⟩,
   ⟨some 37, .mv (.t 5), none, 0⟩,
   ⟨some 38, .nilc (.t 37), none, 0⟩,
   ⟨some 39, .ld 1 false (.t 38), none, 0⟩,
   ⟨some 40, .nilc (.t 36), none, 0⟩,
   ⟨some 41, .fa 8 (.t 40), none, 0⟩,
   ⟨some 42, .fa 4 (.t 41), none, 0⟩,
   ⟨none, .st 1 (.t 42) (.t 39), none, 0⟩])
 (.seq (.reg false [⟨some 43, .mv (.t 5), none, 0⟩,
   ⟨some 4, .mv (.t 43), none, 0⟩])
 (.ret))))
def K66_2 : CC := .seq (.reg true [⟨some 12, .fa 1 (.t 3), none, 0⟩,
   ⟨some 13, .ld 1 false (.t 12), none, 1⟩,
   ⟨some 14, .bin .lss (.t 13) (.c (.d (.v (.int .i64 0)))), none, 3⟩,
   ⟨some 15, .mv (.t 14), none, 7⟩,
   ⟨some 16, .fa 1 (.t 3), some (15, false), 15⟩,
   ⟨some 17, .ld 1 false (.t 16), some (15, false), 31⟩,
   ⟨some 18, .mv (.t 0), some (15, false), 15⟩,
   ⟨some 19, .nilc (.t 18), some (15, false), 79⟩,
   ⟨some 20, .fa 13 (.t 19), some (15, false), 207⟩,
   ⟨some 21, .ld 1 false (.t 20), some (15, false), 463⟩,
   ⟨some 22, .len (.t 21), some (15, false), 975⟩,
   ⟨some 23, .bin .geq (.t 17) (.t 22), some (15, false), 2047⟩,
   ⟨some 24, .pick (.t 15) (.c (.d (.v (.bool true)))) (.t 23), none, 4095⟩])
 (.cond 24 (.seq (.reg false [⟨some 4, .mv (.c (.d (.v (.pointer none)))), none, 0⟩])
   (.ret))
   (.skip))
def K66_3 : CC := .reg false [⟨some 8, .mv (.t 0), none, 0⟩,
   ⟨some 9, .bld [.d (.v (.int .i64 0)), .d (.v (.int .i64 0)), .d (.v (.int .u64 0)), .d (.v (.int .u64 0)), .d (.v (.int .u64 0))] [], none, 0⟩,
   ⟨some 10, .nilc (.t 8), none, 0⟩,
   ⟨some 11, .fa 8 (.t 10), none, 0⟩,
   ⟨none, .st 5 (.t 11) (.t 9), none, 0⟩]
def K66_4 : CC := .seq (.reg false [⟨some 6, .mv (.t 0), none, 0⟩,
   ⟨some 7, .eq .ptr false (.t 6) (.c (.d (.v (.pointer none)))), none, 0⟩])
 (.cond 7 (.seq (.reg false [⟨some 4, .mv (.c (.d (.v (.pointer none)))), none, 0⟩])
   (.ret))
   (.skip))
def K66_5 : CC := .reg false [⟨some 3, .box 42 5 (.t 1), none, 0⟩,
   ⟨some 4, .mv (.c (.d (.v (.pointer none)))), none, 0⟩]
/-- (*coatcheck/memory.Memory).reach -/
def C66 : CF := ⟨2, [(4, none)],
 .seq K66_5 (.seq K66_4 (.seq K66_3 (.seq K66_2 K66_1)))⟩
theorem c66 : coF Tryz.prog Tryz.f112 = some C66 := by kernel_rfl
def A66 : Ann := { keep := [0, 1, 3, 4, 5, 7, 24], live := [] }
def E66 {Ω : Type} : Env Ω := enil
theorem e66 : GoodE Tryz.prog E66 := GoodE.nil
def S66 {Ω : Type} : Spec Ω := inl E66 A66 C66 false
theorem g66 : Good1 Tryz.prog 112 S66 := Good1.inl e66 mix Tryz.func112 (by kernel_rfl) c66 A66 false
/-- (*coatcheck/memory.Memory).Clear -/
def C29 : CF := ⟨1, [],
 .seq (.reg false [⟨some 2, .mv (.t 0), none, 0⟩,
   ⟨some 3, .eq .ptr true (.t 2) (.c (.d (.v (.pointer none)))), none, 0⟩])
 (.cond 3 (.reg false [⟨some 4, .mv (.t 0), none, 0⟩,
     ⟨some 5, .bld [.d (.v (.int .i64 0)), .d (.v (.int .i64 0)), .d (.v (.int .u64 0)), .d (.v (.int .u64 0)), .d (.v (.int .u64 0))] [], none, 0⟩,
     ⟨some 6, .nilc (.t 4), none, 0⟩,
     ⟨some 7, .fa 8 (.t 6), none, 0⟩,
     ⟨none, .st 5 (.t 7) (.t 5), none, 0⟩])
   (.skip))⟩
theorem c29 : coF Tryz.prog Tryz.f77 = some C29 := by kernel_rfl
def A29 : Ann := { keep := [0, 3], live := [] }
def E29 {Ω : Type} : Env Ω := enil
theorem e29 : GoodE Tryz.prog E29 := GoodE.nil
/-- (*coatcheck/memory.Memory).Load -/
def C21 : CF := ⟨2, [(4, none)],
 .seq (.reg false [⟨some 4, .mv (.c (.d (.v (.int .u64 0)))), none, 0⟩])
 (.seq (.seq (.reg false [⟨some 6, .mv (.t 0), none, 0⟩,
   ⟨some 7, .mv (.t 1), none, 0⟩,
   ⟨some 8, .bld [.d (.v (.int .i64 0)), .d (.v (.int .i64 0)), .d (.v (.int .u64 0)), .d (.v (.int .u64 0)), .d (.v (.int .u64 0))] [(0, 1, .c (.d (.v (.int .i64 1)))), (1, 1, .t 7)], none, 0⟩,
   ⟨some 9, .call (.c (.fn (.func 112) [] [])) [.t 6, .t 8], none, 0⟩,
   ⟨some 5, .mv (.t 9), none, 0⟩])
 (.seq (.reg false [⟨some 10, .mv (.t 5), none, 0⟩,
   ⟨some 11, .eq .ptr true (.t 10) (.c (.d (.v (.pointer none)))), none, 0⟩])
 (.cond 11 (.seq (.reg false [⟨some 12, .mv (.t 5), none, 0⟩,
     ⟨some 13, .nilc (.t 12), none, 0⟩,
     ⟨some 14, .ld 1 false (.t 13), none, 0⟩,
     ⟨some 4, .mv (.t 14), none, 0⟩])
   (.ret))
   (.skip))))
 (.seq (.reg false [⟨some 4, .mv (.c (.d (.v (.int .u64 0)))), none, 0⟩])
 (.ret)))⟩
theorem c21 : coF Tryz.prog Tryz.f80 = some C21 := by kernel_rfl
def A21 : Ann := { keep := [0, 1, 4, 5, 11], live := [] }
def E21 {Ω : Type} : Env Ω := econs 112 S66 (enil)
theorem e21 : GoodE Tryz.prog E21 := GoodE.cons g66 (GoodE.nil)
/-- (*coatcheck/memory.Memory).Store -/
def C23 : CF := ⟨3, [],
 .seq (.reg false [⟨some 7, .mv (.t 0), none, 0⟩,
   ⟨some 8, .mv (.t 1), none, 0⟩,
   ⟨some 9, .mv (.t 2), none, 0⟩,
   ⟨some 10, .bld [.d (.v (.int .i64 0)), .d (.v (.int .i64 0)), .d (.v (.int .u64 0)), .d (.v (.int .u64 0)), .d (.v (.int .u64 0))] [(0, 1, .c (.d (.v (.int .i64 2)))), (1, 1, .t 8), (2, 1, .t 9)], none, 0⟩,
   ⟨some 11, .call (.c (.fn (.func 112) [] [])) [.t 7, .t 10], none, 0⟩,
   ⟨some 6, .mv (.t 11), none, 0⟩])
 (.seq (.reg false [⟨some 12, .mv (.t 6), none, 0⟩,
   ⟨some 13, .eq .ptr true (.t 12) (.c (.d (.v (.pointer none)))), none, 0⟩])
 (.cond 13 (.reg false [⟨some 14, .mv (.t 6), none, 0⟩,
     ⟨some 15, .mv (.t 2), none, 0⟩,
     ⟨some 16, .nilc (.t 14), none, 0⟩,
     ⟨none, .st 1 (.t 16) (.t 15), none, 0⟩])
   (.skip)))⟩
theorem c23 : coF Tryz.prog Tryz.f81 = some C23 := by kernel_rfl
def A23 : Ann := { keep := [0, 1, 2, 6, 13], live := [] }
def E23 {Ω : Type} : Env Ω := econs 112 S66 (enil)
theorem e23 : GoodE Tryz.prog E23 := GoodE.cons g66 (GoodE.nil)
/-- (*coatcheck/memory.Memory).Cas -/
def C25 : CF := ⟨4, [(8, none)],
 .seq (.reg false [⟨some 8, .mv (.c (.d (.v (.bool false)))), none, 0⟩])
 (.seq (.reg false [⟨some 10, .mv (.t 0), none, 0⟩,
   ⟨some 11, .mv (.t 1), none, 0⟩,
   ⟨some 12, .mv (.t 2), none, 0⟩,
   ⟨some 13, .mv (.t 3), none, 0⟩,
   ⟨some 14, .bld [.d (.v (.int .i64 0)), .d (.v (.int .i64 0)), .d (.v (.int .u64 0)), .d (.v (.int .u64 0)), .d (.v (.int .u64 0))] [(0, 1, .c (.d (.v (.int .i64 3)))), (1, 1, .t 11), (2, 1, .t 12), (3, 1, .t 13)], none, 0⟩,
   ⟨some 15, .call (.c (.fn (.func 112) [] [])) [.t 10, .t 14], none, 0⟩,
   ⟨some 9, .mv (.t 15), none, 0⟩])
 (.seq (.seq (.reg false [⟨some 16, .mv (.t 9), none, 0⟩,
   ⟨some 17, .eq .ptr false (.t 16) (.c (.d (.v (.pointer none)))), none, 0⟩,
   ⟨some 18, .mv (.t 17), none, 0⟩,
   ⟨some 19, .mv (.t 9), some (18, false), 0⟩,
   ⟨some 20, .nilc (.t 19), some (18, false), 0⟩,
   ⟨some 21, .ld 1 false (.t 20), some (18, false), 0⟩,
   ⟨some 22, .mv (.t 2), some (18, false), 0⟩,
   ⟨some 23, .eq .int true (.t 21) (.t 22), some (18, false), 0⟩,
   ⟨some 24, .pick (.t 18) (.c (.d (.v (.bool true)))) (.t 23), none, 0⟩])
 (.cond 24 (.seq (.reg false [⟨some 8, .mv (.c (.d (.v (.bool false)))), none, 0⟩])
   (.ret))
   (.skip)))
 (.seq (.reg false [⟨some 25, .mv (.t 9), none, 0⟩,
   ⟨some 26, .mv (.t 3), none, 0⟩,
   ⟨some 27, .nilc (.t 25), none, 0⟩,
   ⟨none, .st 1 (.t 27) (.t 26), none, 0⟩])
 (.seq (.reg false [⟨some 8, .mv (.c (.d (.v (.bool true)))), none, 0⟩])
 (.ret)))))⟩
theorem c25 : coF Tryz.prog Tryz.f120 = some C25 := by kernel_rfl
def A25 : Ann := { keep := [0, 1, 2, 3, 8, 9, 24], live := [] }
def E25 {Ω : Type} : Env Ω := econs 112 S66 (enil)
theorem e25 : GoodE Tryz.prog E25 := GoodE.cons g66 (GoodE.nil)
/-- (*coatcheck/memory.Memory).Add -/
def C27 : CF := ⟨3, [(6, none)],
 .seq (.reg false [⟨some 6, .mv (.c (.d (.v (.int .u64 0)))), none, 0⟩])
 (.seq (.reg false [⟨some 8, .mv (.t 0), none, 0⟩,
   ⟨some 9, .mv (.t 1), none, 0⟩,
   ⟨some 10, .mv (.t 2), none, 0⟩,
   ⟨some 11, .bld [.d (.v (.int .i64 0)), .d (.v (.int .i64 0)), .d (.v (.int .u64 0)), .d (.v (.int .u64 0)), .d (.v (.int .u64 0))] [(0, 1, .c (.d (.v (.int .i64 4)))), (1, 1, .t 9), (2, 1, .t 10)], none, 0⟩,
   ⟨some 12, .call (.c (.fn (.func 112) [] [])) [.t 8, .t 11], none, 0⟩,
   ⟨some 7, .mv (.t 12), none, 0⟩])
 (.seq (.seq (.reg false [⟨some 13, .mv (.t 7), none, 0⟩,
   ⟨some 14, .eq .ptr false (.t 13) (.c (.d (.v (.pointer none)))), none, 0⟩])
 (.cond 14 (.seq (.reg false [⟨some 6, .mv (.c (.d (.v (.int .u64 0)))), none, 0⟩])
   (.ret))
   (.skip)))
 (.seq (.reg false [⟨some 15, .mv (.t 7), none, 0⟩,
   ⟨some 16, .nilc (.t 15), none, 0⟩,
   ⟨some 17, .ld 1 false (.t 16), none, 0⟩,
   ⟨some 18, .mv (.t 2), none, 0⟩,
   ⟨some 19, .bin .add (.t 17) (.t 18), none, 0⟩,
   ⟨some 20, .nilc (.t 15), none, 0⟩,
   ⟨none, .st 1 (.t 20) (.t 19), none, 0⟩])
 (.seq (.reg false [⟨some 21, .mv (.t 7), none, 0⟩,
   ⟨some 22, .nilc (.t 21), none, 0⟩,
   ⟨some 23, .ld 1 false (.t 22), none, 0⟩,
   ⟨some 24, .mv (.t 2), none, 0⟩,
   ⟨some 25, .bin .sub (.t 23) (.t 24), none, 0⟩,
   ⟨some 6, .mv (.t 25), none, 0⟩])
 (.ret)))))⟩
theorem c27 : coF Tryz.prog Tryz.f125 = some C27 := by kernel_rfl
def A27 : Ann := { keep := [0, 1, 2, 6, 7, 14], live := [] }
def E27 {Ω : Type} : Env Ω := econs 112 S66 (enil)
theorem e27 : GoodE Tryz.prog E27 := GoodE.cons g66 (GoodE.nil)
/-- (*coatcheck/memory.Memory).All -/
def C33 : CF := ⟨1, [(2, none)],
 .seq (.reg false [⟨some 2, .mv (.c (.d (.v (.slice none 0 0)))), none, 0⟩])
 (.seq (.seq (.reg false [⟨some 3, .mv (.t 0), none, 0⟩,
   ⟨some 4, .eq .ptr false (.t 3) (.c (.d (.v (.pointer none)))), none, 0⟩])
 (.cond 4 (.seq (.reg false [⟨some 2, .mv (.c (.d (.v (.slice none 0 0)))), none, 0⟩])
   (.ret))
   (.skip)))
 (.seq (.reg false [⟨some 5, .mv (.t 0), none, 0⟩,
   ⟨some 6, .nilc (.t 5), none, 0⟩,
   ⟨some 7, .fa 13 (.t 6), none, 0⟩,
   ⟨some 8, .ld 1 false (.t 7), none, 0⟩,
   ⟨some 9, .call (.c (.fn (.func 33) [] [])) [.t 8], none, 0⟩,
   ⟨some 2, .mv (.t 9), none, 0⟩])
 (.ret)))⟩
theorem c33 : coF Tryz.prog Tryz.f41 = some C33 := by kernel_rfl
def A33 : Ann := { keep := [0, 2, 4], live := [] }
def E33 {Ω : Type} : Env Ω := econs 33 S65 (enil)
theorem e33 : GoodE Tryz.prog E33 := GoodE.cons g65 (GoodE.nil)
end Go.Sx.Pr

/- Memory's operations, of both layers: what they answer and leave. -/
namespace Go.Sx.Pr
open Go Go.Sx Go.Sx.Md Go.Proofs
set_option maxRecDepth 100000

def ctsM : List CT := [.i .i64, .i .i64, .i .i64, .i .i64, .i .i64, .i .i64, .i .i64, .i .u64, .i .i64, .i .i64, .i .u64, .i .u64, .i .u64]

def encC (c : Cf) : List SV := [I c.a, I c.b, I c.c, I c.d, I c.e, I c.f, I c.g, U c.l]
def encM (m : Mm) : List SV := [I m.c.a, I m.c.b, I m.c.c, I m.c.d, I m.c.e, I m.c.f, I m.c.g, U m.c.l, I m.s.k, I m.s.a, U m.s.x, U m.s.y, U m.s.o, .own 1]
def gi (c : List SV) (j : Nat) : Int := getI (dv (c.getD j .top))
def decC (c : List SV) : Cf := ⟨gi c 0, gi c 1, gi c 2, gi c 3, gi c 4, gi c 5, gi c 6, gi c 7⟩
def decM (c : List SV) (ws : List Int) : Mm := ⟨decC c, ⟨gi c 8, gi c 9, gi c 10, gi c 11, gi c 12⟩, ws⟩
def isOwn1 : List SV → Bool
  | [.own 1] => true
  | _ => false
def isM (c : List SV) : Bool := isC ctsM (c.take 13) && isOwn1 (c.drop 13)
theorem isOwn1_eq {c : List SV} (h : isOwn1 c = true) : c = [.own 1] := by
  unfold isOwn1 at h
  split at h
  · rfl
  · cases h

theorem isC_get {cts : List CT} {c : List SV} (h : isC cts c = true) : c = (cellsD cts 0 (fun j => gi c j) (fun j => getB (dv (c.getD j .top))) (fun j => getS (dv (c.getD j .top)))).map .d :=
  isC_enc h (fun i _ => by simp [gi]) (fun i _ => by simp) (fun i _ => by simp)

theorem gi_take {c : List SV} {n j : Nat} (h : j < n) : gi (c.take n) j = gi c j := by
  simp [gi, List.getD_eq_getElem?_getD, List.getElem?_take, h]
theorem enc_decM {c : List SV} (ws : List Int) (h : isM c = true) : encM (decM c ws) = c := by
  simp only [isM, Bool.and_eq_true] at h
  have h1 := isC_get h.1
  have h2 := isOwn1_eq h.2
  have e : c = c.take 13 ++ c.drop 13 := (List.take_append_drop 13 c).symm
  rw [h2, h1] at e
  simp only [cellsD, ctsM, List.map_cons, List.map_nil, gi_take (show 0 < 13 by decide), gi_take (show 1 < 13 by decide), gi_take (show 2 < 13 by decide), gi_take (show 3 < 13 by decide), gi_take (show 4 < 13 by decide), gi_take (show 5 < 13 by decide), gi_take (show 6 < 13 by decide), gi_take (show 7 < 13 by decide), gi_take (show 8 < 13 by decide), gi_take (show 9 < 13 by decide), gi_take (show 10 < 13 by decide), gi_take (show 11 < 13 by decide), gi_take (show 12 < 13 by decide), Nat.zero_add, Nat.reduceAdd, List.cons_append, List.nil_append] at e
  exact e.symm

/-- Memory, in one layer's order. -/
structure Lay where
  is : List SV → Bool
  dec : List SV → List Int → Mm
  enc : Mm → List SV
  own : Nat
def LM : Lay := ⟨isM, decM, encM, 13⟩
def findM (j : Nat) (h : SH) (args : List SV) : Option (List Nat) := match args with
  | .ptr l 0 :: _ => match hget h l with
    | .cells _ c => match c.getD j .top with
      | .own l2 => some [l, l2]
      | _ => none
    | _ => none
  | .d (.v (.pointer none)) :: _ => some []
  | _ => none

abbrev objs (L : Lay) (t tw : TypeId) (m : Mm) : SH := [.cells t (L.enc m), .rowi tw .u64 m.ws]

/-- A function by its answer on a memory (guard, result, memory), and on none. -/
def memF (L : Lay) (g : Mm → List SV → Option (Bool × SV × Mm)) (gn : List SV → Option SV) : List SV → SH → List Alt := fun a0 h0 => match a0, h0 with
  | .ptr 0 0 :: xs, [.cells t c, .rowi tw .u64 ws] => bif L.is c then (match g (L.dec c ws) xs with
    | some (b, r, m') => [(b, r, objs L t tw m')]
    | none => []) else []
  | .d (.v (.pointer none)) :: xs, [] => match gn xs with
    | some r => [(true, r, [])]
    | none => []
  | _, _ => []

abbrev KT (n : Nat) : SV → SH → Option (SV × SH) := fun r H => some (r, trim n r (List.range n) H)

theorem kt_of {P : Program} {e : {Ω : Type} → Env Ω} (he : GoodE P e) {A : Ann} {C : CF} {args : List SV} {h h1 : SH} {n : Nat} {r : SV} (hr : sxFn (e (Ω := SV × SH)) A C args h (KT n) = some (r, h1)) :
    ∃ H, trim n r (List.range n) H = h1 ∧ sxFn (e (Ω := SV × SH)) A C args h KS = some (r, H) := by
  obtain ⟨r', h', k1, k2⟩ := sxFn_par (he.par _ (SV × SH)) hr
  simp only [Option.some.injEq, Prod.mk.injEq] at k1
  obtain ⟨rfl, rfl⟩ := k1
  exact ⟨h', rfl, k2 KS⟩

theorem lay_M : ∀ c ws, LM.is c = true → LM.enc (LM.dec c ws) = c ∧ (LM.dec c ws).ws = ws := fun c ws h => ⟨enc_decM ws h, rfl⟩
abbrev An (A : Ann) (n : Nat) : Ann := { A with n0 := n, ap := [] }

theorem memFGood {P : Program} {g : Nat} {fn : Func} (hf : P.funcs[g]? = some fn) (hname : (fn.name == "runtime.NumGoroutine") = false) {C : CF} (hC : coF P fn = some C) {A : Ann} {e : {Ω : Type} → Env Ω} (he : GoodE P e) (hmix : P.follows .mixedOrders = true)
    {ts : List (Option (List CT))} {L : Lay} (hL : ∀ c ws, L.is c = true → L.enc (L.dec c ws) = c ∧ (L.dec c ws).ws = ws) {f : Mm → List SV → Option (Bool × SV × Mm)} {gn : List SV → Option SV}
    (hrun : ∀ m xs r m' t tw, f m xs = some (true, r, m') → ∃ r0, LeV r0 r ∧ sxFn (e (Ω := SV × SH)) (An A 2) C (.ptr 0 0 :: xs) (objs L t tw m) (KT 2) = some (r0, objs L t tw m'))
    (hnil : ∀ xs r, gn xs = some r → sxFn (e (Ω := SV × SH)) (An A 0) C (.d (.v (.pointer none)) :: xs) [] (KT 0) = some (r, [])) :
    Good1 P g (fun {Ω} => memSpec ts (findM L.own) [] (memF L f gn) (Ω := Ω)) :=
  memGood (A := A) hf hname hC he hmix (fun _ _ _ _ i hi => by cases hi) fun a0 h0 r h1 hF => by
    unfold memF at hF
    split at hF
    · rename_i xs t c tw ws
      cases hc : L.is c with
      | false => rw [hc] at hF; cases hF
      | true =>
        rw [hc, cond_true] at hF
        obtain ⟨e1, e2⟩ := hL c ws hc
        split at hF
        · rename_i b r' m' hg
          cases b with
          | false => cases hF
          | true =>
            simp only [firstAlt, cond_true, Option.some.injEq, Prod.mk.injEq] at hF
            obtain ⟨rfl, rfl⟩ := hF
            obtain ⟨r0, q1, q2⟩ := hrun _ xs r' m' t tw hg
            rw [show objs L t tw (L.dec c ws) = [.cells t c, .rowi tw .u64 ws] by simp only [objs, e1, e2]] at q2
            obtain ⟨H, q3, q4⟩ := kt_of he q2
            exact ⟨r0, _, H, q1, RowEq.refl _, q3, q4⟩
        · cases hF
    · rename_i xs
      split at hF
      · rename_i r' hg
        simp only [firstAlt, cond_true, Option.some.injEq, Prod.mk.injEq] at hF
        obtain ⟨rfl, rfl⟩ := hF
        obtain ⟨H, q3, q4⟩ := kt_of he (hnil xs r' hg)
        refine ⟨r', _, H, ?_, RowEq.refl _, q3, q4⟩
        exact LeV.refl r'
      · cases hF
    · cases hF
end Go.Sx.Pr

/- Memory's operations, of both layers, on the pure memory. -/
namespace Go.Sx.Pr
open Go Go.Sx Go.Sx.Md Go.Proofs
set_option maxRecDepth 100000
theorem n29 (m : Mm) (t tw : Nat) :
    sxFn (E29 (Ω := SV × SH)) (An A29 2) C29 [.ptr 0 0] (objs LM t tw m) (KT 2) =
    some (.tup [], [.cells t [I (Cf.a (Mm.c m)), I (Cf.b (Mm.c m)), I (Cf.c (Mm.c m)), I (Cf.d (Mm.c m)), I (Cf.e (Mm.c m)), I (Cf.f (Mm.c m)), I (Cf.g (Mm.c m)), U (Cf.l (Mm.c m)), I 0, I 0, U 0, U 0, U 0, .own 1], .rowi tw .u64 (Mm.ws m)]) := by kernel_rfl
theorem n21 (m : Mm) (t tw : Nat) (a : Int) :
    sxFn (E21 (Ω := SV × SH)) (An A21 2) C21 [.ptr 0 0, I a] (objs LM t tw m) (KT 2) =
    br (decide (a < 0)) (some (U 0, [.cells t [I (Cf.a (Mm.c m)), I (Cf.b (Mm.c m)), I (Cf.c (Mm.c m)), I (Cf.d (Mm.c m)), I (Cf.e (Mm.c m)), I (Cf.f (Mm.c m)), I (Cf.g (Mm.c m)), U (Cf.l (Mm.c m)), I 0, I 0, U 0, U 0, U 0, .own 1], .rowi tw .u64 (Mm.ws m)])) (br (decide (a ≥ (↑(List.length (Mm.ws m)) : Int))) (some (U 0, [.cells t [I (Cf.a (Mm.c m)), I (Cf.b (Mm.c m)), I (Cf.c (Mm.c m)), I (Cf.d (Mm.c m)), I (Cf.e (Mm.c m)), I (Cf.f (Mm.c m)), I (Cf.g (Mm.c m)), U (Cf.l (Mm.c m)), I 0, I 0, U 0, U 0, U 0, .own 1], .rowi tw .u64 (Mm.ws m)])) (br (inB a (List.length (Mm.ws m))) (some (U (List.getD (Mm.ws m) (Int.toNat a) 0), [.cells t [I (Cf.a (Mm.c m)), I (Cf.b (Mm.c m)), I (Cf.c (Mm.c m)), I (Cf.d (Mm.c m)), I (Cf.e (Mm.c m)), I (Cf.f (Mm.c m)), I (Cf.g (Mm.c m)), U (Cf.l (Mm.c m)), I 1, I a, U 0, U 0, U (List.getD (Mm.ws m) (Int.toNat a) 0), .own 1], .rowi tw .u64 (Mm.ws m)])) none)) := by kernel_rfl
theorem n23 (m : Mm) (t tw : Nat) (a x : Int) :
    sxFn (E23 (Ω := SV × SH)) (An A23 2) C23 [.ptr 0 0, I a, U x] (objs LM t tw m) (KT 2) =
    br (decide (a < 0)) (some (.tup [], [.cells t [I (Cf.a (Mm.c m)), I (Cf.b (Mm.c m)), I (Cf.c (Mm.c m)), I (Cf.d (Mm.c m)), I (Cf.e (Mm.c m)), I (Cf.f (Mm.c m)), I (Cf.g (Mm.c m)), U (Cf.l (Mm.c m)), I 0, I 0, U 0, U 0, U 0, .own 1], .rowi tw .u64 (Mm.ws m)])) (br (decide (a ≥ (↑(List.length (Mm.ws m)) : Int))) (some (.tup [], [.cells t [I (Cf.a (Mm.c m)), I (Cf.b (Mm.c m)), I (Cf.c (Mm.c m)), I (Cf.d (Mm.c m)), I (Cf.e (Mm.c m)), I (Cf.f (Mm.c m)), I (Cf.g (Mm.c m)), U (Cf.l (Mm.c m)), I 0, I 0, U 0, U 0, U 0, .own 1], .rowi tw .u64 (Mm.ws m)])) (br (inB a (List.length (Mm.ws m))) (some (.tup [], [.cells t [I (Cf.a (Mm.c m)), I (Cf.b (Mm.c m)), I (Cf.c (Mm.c m)), I (Cf.d (Mm.c m)), I (Cf.e (Mm.c m)), I (Cf.f (Mm.c m)), I (Cf.g (Mm.c m)), U (Cf.l (Mm.c m)), I 2, I a, U x, U 0, U (List.getD (Mm.ws m) (Int.toNat a) 0), .own 1], .rowi tw .u64 (List.set (Mm.ws m) (Int.toNat a) x)])) none)) := by kernel_rfl
theorem n25 (m : Mm) (t tw : Nat) (a x y : Int) :
    sxFn (E25 (Ω := SV × SH)) (An A25 2) C25 [.ptr 0 0, I a, U x, U y] (objs LM t tw m) (KT 2) =
    br (decide (a < 0)) (some (B false, [.cells t [I (Cf.a (Mm.c m)), I (Cf.b (Mm.c m)), I (Cf.c (Mm.c m)), I (Cf.d (Mm.c m)), I (Cf.e (Mm.c m)), I (Cf.f (Mm.c m)), I (Cf.g (Mm.c m)), U (Cf.l (Mm.c m)), I 0, I 0, U 0, U 0, U 0, .own 1], .rowi tw .u64 (Mm.ws m)])) (br (decide (a ≥ (↑(List.length (Mm.ws m)) : Int))) (some (B false, [.cells t [I (Cf.a (Mm.c m)), I (Cf.b (Mm.c m)), I (Cf.c (Mm.c m)), I (Cf.d (Mm.c m)), I (Cf.e (Mm.c m)), I (Cf.f (Mm.c m)), I (Cf.g (Mm.c m)), U (Cf.l (Mm.c m)), I 0, I 0, U 0, U 0, U 0, .own 1], .rowi tw .u64 (Mm.ws m)])) (br (inB a (List.length (Mm.ws m))) (br (!List.getD (Mm.ws m) (Int.toNat a) 0 == x) (some (B false, [.cells t [I (Cf.a (Mm.c m)), I (Cf.b (Mm.c m)), I (Cf.c (Mm.c m)), I (Cf.d (Mm.c m)), I (Cf.e (Mm.c m)), I (Cf.f (Mm.c m)), I (Cf.g (Mm.c m)), U (Cf.l (Mm.c m)), I 3, I a, U x, U y, U (List.getD (Mm.ws m) (Int.toNat a) 0), .own 1], .rowi tw .u64 (Mm.ws m)])) (some (B true, [.cells t [I (Cf.a (Mm.c m)), I (Cf.b (Mm.c m)), I (Cf.c (Mm.c m)), I (Cf.d (Mm.c m)), I (Cf.e (Mm.c m)), I (Cf.f (Mm.c m)), I (Cf.g (Mm.c m)), U (Cf.l (Mm.c m)), I 3, I a, U x, U y, U (List.getD (Mm.ws m) (Int.toNat a) 0), .own 1], .rowi tw .u64 (List.set (Mm.ws m) (Int.toNat a) y)]))) none)) := by kernel_rfl
theorem n27 (m : Mm) (t tw : Nat) (a x : Int) :
    sxFn (E27 (Ω := SV × SH)) (An A27 2) C27 [.ptr 0 0, I a, U x] (objs LM t tw m) (KT 2) =
    br (decide (a < 0)) (some (U 0, [.cells t [I (Cf.a (Mm.c m)), I (Cf.b (Mm.c m)), I (Cf.c (Mm.c m)), I (Cf.d (Mm.c m)), I (Cf.e (Mm.c m)), I (Cf.f (Mm.c m)), I (Cf.g (Mm.c m)), U (Cf.l (Mm.c m)), I 0, I 0, U 0, U 0, U 0, .own 1], .rowi tw .u64 (Mm.ws m)])) (br (decide (a ≥ (↑(List.length (Mm.ws m)) : Int))) (some (U 0, [.cells t [I (Cf.a (Mm.c m)), I (Cf.b (Mm.c m)), I (Cf.c (Mm.c m)), I (Cf.d (Mm.c m)), I (Cf.e (Mm.c m)), I (Cf.f (Mm.c m)), I (Cf.g (Mm.c m)), U (Cf.l (Mm.c m)), I 0, I 0, U 0, U 0, U 0, .own 1], .rowi tw .u64 (Mm.ws m)])) (br (inB a (List.length (Mm.ws m))) (some (U (IntKind.wrap .u64 (List.getD (List.set (Mm.ws m) (Int.toNat a) (IntKind.wrap .u64 (List.getD (Mm.ws m) (Int.toNat a) 0 + x))) (Int.toNat a) 0 - x)), [.cells t [I (Cf.a (Mm.c m)), I (Cf.b (Mm.c m)), I (Cf.c (Mm.c m)), I (Cf.d (Mm.c m)), I (Cf.e (Mm.c m)), I (Cf.f (Mm.c m)), I (Cf.g (Mm.c m)), U (Cf.l (Mm.c m)), I 4, I a, U x, U 0, U (List.getD (Mm.ws m) (Int.toNat a) 0), .own 1], .rowi tw .u64 (List.set (Mm.ws m) (Int.toNat a) (IntKind.wrap .u64 (List.getD (Mm.ws m) (Int.toNat a) 0 + x)))])) none)) := by kernel_rfl
def mAddV (m : Mm) (a x : Int) : Int := bif Mm.ok m a then IntKind.wrap .u64 (IntKind.wrap .u64 (Mm.get m a + x) - x) else 0
theorem set_self {l : List Int} {a v : Int} (h : inB a l.length = true) : (l.set a.toNat v).getD a.toNat 0 = v := by
  have h1 : a.toNat < l.length := by
    simp only [inB, Bool.and_eq_true, decide_eq_true_eq] at h; omega
  simp [List.getD_eq_getElem?_getD, h1]
theorem inB3 (a : Int) (n : Nat) : (decide (a < 0) = true ∧ inB a n = false) ∨ (decide (a < 0) = false ∧ decide (a ≥ (n : Int)) = true ∧ inB a n = false) ∨ (decide (a < 0) = false ∧ decide (a ≥ (n : Int)) = false ∧ inB a n = true) := by
  simp only [inB, decide_eq_true_eq, decide_eq_false_iff_not, Bool.and_eq_false_iff, Bool.and_eq_true]
  omega
/-- A number in a cell of an argument. -/
def sI : SV → Option Int
  | .d (.v (.int .i64 x)) => some x
  | _ => none
def sU : SV → Option Int
  | .d (.v (.int .u64 x)) => some x
  | _ => none
theorem sI_eq {x : SV} {a : Int} (h : sI x = some a) : x = I a := by
  unfold sI at h
  split at h
  · simp only [Option.some.injEq] at h; subst h; rfl
  · cases h
theorem sU_eq {x : SV} {a : Int} (h : sU x = some a) : x = U a := by
  unfold sU at h
  split at h
  · simp only [Option.some.injEq] at h; subst h; rfl
  · cases h
theorem v29 {m : Mm} {t tw : TypeId} : sxFn (E29 (Ω := SV × SH)) (An A29 2) C29 [.ptr 0 0] (objs LM t tw m) (KT 2) = some (.tup [], objs LM t tw (mClear m)) := by
  rw [n29]
  rfl
def G29 (m : Mm) (l : List SV) : Option (Bool × SV × Mm) := match l with
  | [] => some (true, .tup [], mClear m)
  | _ => none
def S29m {Ω : Type} : Spec Ω := memSpec [none] (findM LM.own) [] (memF LM G29 (fun _ => none))
theorem g29m : Good1 Tryz.prog 77 S29m := memFGood (A := A29) Tryz.func77 (by kernel_rfl) c29 e29 mix (L := LM) lay_M (fun m xs r m' t tw h => by
  unfold G29 at h
  split at h
  · simp only [Option.some.injEq, Prod.mk.injEq, true_and] at h
    obtain ⟨rfl, rfl⟩ := h
    exact ⟨_, LeV.refl _, v29⟩
  · cases h) (fun xs r h => by cases h)
theorem v21 {m : Mm} {t tw : TypeId} {a : Int} : sxFn (E21 (Ω := SV × SH)) (An A21 2) C21 [.ptr 0 0, I a] (objs LM t tw m) (KT 2) = some (U (mLoadV m a), objs LM t tw (mLoad m a)) := by
  rw [n21]
  rcases inB3 a m.ws.length with ⟨h1, h3⟩ | ⟨h1, h2, h3⟩ | ⟨h1, h2, h3⟩
  · simp only [h1, h3, br_t, br_f, mLoadV, mAddV, mCasB, mLoad, mStore, mCas, mAdd, mSee, mSet, Mm.ok, cond_true, cond_false, Bool.false_and, Bool.true_and]
    rfl
  · simp only [h1, h2, h3, br_t, br_f, mLoadV, mAddV, mCasB, mLoad, mStore, mCas, mAdd, mSee, mSet, Mm.ok, cond_true, cond_false, Bool.false_and, Bool.true_and]
    rfl
  · simp only [h1, h2, h3, br_t, br_f, mLoadV, mAddV, mCasB, mLoad, mStore, mCas, mAdd, mSee, mSet, Mm.ok, Mm.get, cond_true, cond_false, Bool.false_and, Bool.true_and]
    rfl
def G21 (m : Mm) (l : List SV) : Option (Bool × SV × Mm) := match l with
  | [p0] => match sI p0 with
    | some a => some (true, U (mLoadV m a), mLoad m a)
    | _ => none
  | _ => none
def S21m {Ω : Type} : Spec Ω := memSpec [none, none] (findM LM.own) [] (memF LM G21 (fun _ => none))
theorem g21m : Good1 Tryz.prog 80 S21m := memFGood (A := A21) Tryz.func80 (by kernel_rfl) c21 e21 mix (L := LM) lay_M (fun m xs r m' t tw h => by
  unfold G21 at h
  split at h
  · split at h
    · rename_i h0
      simp only [Option.some.injEq, Prod.mk.injEq, true_and] at h
      obtain ⟨rfl, rfl⟩ := h
      rw [sI_eq h0]
      exact ⟨_, LeV.refl _, v21⟩
    · cases h
  · cases h) (fun xs r h => by cases h)
theorem v23 {m : Mm} {t tw : TypeId} {a x : Int} : sxFn (E23 (Ω := SV × SH)) (An A23 2) C23 [.ptr 0 0, I a, U x] (objs LM t tw m) (KT 2) = some (.tup [], objs LM t tw (mStore m a x)) := by
  rw [n23]
  rcases inB3 a m.ws.length with ⟨h1, h3⟩ | ⟨h1, h2, h3⟩ | ⟨h1, h2, h3⟩
  · simp only [h1, h3, br_t, br_f, mLoadV, mAddV, mCasB, mLoad, mStore, mCas, mAdd, mSee, mSet, Mm.ok, cond_true, cond_false, Bool.false_and, Bool.true_and]
    rfl
  · simp only [h1, h2, h3, br_t, br_f, mLoadV, mAddV, mCasB, mLoad, mStore, mCas, mAdd, mSee, mSet, Mm.ok, cond_true, cond_false, Bool.false_and, Bool.true_and]
    rfl
  · simp only [h1, h2, h3, br_t, br_f, mLoadV, mAddV, mCasB, mLoad, mStore, mCas, mAdd, mSee, mSet, Mm.ok, Mm.get, cond_true, cond_false, Bool.false_and, Bool.true_and]
    rfl
def G23 (m : Mm) (l : List SV) : Option (Bool × SV × Mm) := match l with
  | [p0, p1] => match sI p0, sU p1 with
    | some a, some x => some (true, .tup [], mStore m a x)
    | _, _ => none
  | _ => none
def S23m {Ω : Type} : Spec Ω := memSpec [none, none, none] (findM LM.own) [] (memF LM G23 (fun _ => none))
theorem g23m : Good1 Tryz.prog 81 S23m := memFGood (A := A23) Tryz.func81 (by kernel_rfl) c23 e23 mix (L := LM) lay_M (fun m xs r m' t tw h => by
  unfold G23 at h
  split at h
  · split at h
    · rename_i h0 h1
      simp only [Option.some.injEq, Prod.mk.injEq, true_and] at h
      obtain ⟨rfl, rfl⟩ := h
      rw [sI_eq h0, sU_eq h1]
      exact ⟨_, LeV.refl _, v23⟩
    · cases h
  · cases h) (fun xs r h => by cases h)
theorem v25 {m : Mm} {t tw : TypeId} {a x y : Int} : sxFn (E25 (Ω := SV × SH)) (An A25 2) C25 [.ptr 0 0, I a, U x, U y] (objs LM t tw m) (KT 2) = some (B (mCasB m a x), objs LM t tw (mCas m a x y)) := by
  rw [n25]
  rcases inB3 a m.ws.length with ⟨h1, h3⟩ | ⟨h1, h2, h3⟩ | ⟨h1, h2, h3⟩
  · simp only [h1, h3, br_t, br_f, mLoadV, mAddV, mCasB, mLoad, mStore, mCas, mAdd, mSee, mSet, Mm.ok, cond_true, cond_false, Bool.false_and, Bool.true_and]
    rfl
  · simp only [h1, h2, h3, br_t, br_f, mLoadV, mAddV, mCasB, mLoad, mStore, mCas, mAdd, mSee, mSet, Mm.ok, cond_true, cond_false, Bool.false_and, Bool.true_and]
    rfl
  · simp only [h1, h2, h3, br_t, br_f, mLoadV, mAddV, mCasB, mLoad, mStore, mCas, mAdd, mSee, mSet, Mm.ok, Mm.get, cond_true, cond_false, Bool.false_and, Bool.true_and]
    cases hx : (m.ws.getD a.toNat 0 == x) <;> first | rfl | (simp only [hx, br_t, br_f, cond_true, cond_false, Bool.not_true, Bool.not_false]; rfl)
def G25 (m : Mm) (l : List SV) : Option (Bool × SV × Mm) := match l with
  | [p0, p1, p2] => match sI p0, sU p1, sU p2 with
    | some a, some x, some y => some (true, B (mCasB m a x), mCas m a x y)
    | _, _, _ => none
  | _ => none
def S25m {Ω : Type} : Spec Ω := memSpec [none, none, none, none] (findM LM.own) [] (memF LM G25 (fun _ => none))
theorem g25m : Good1 Tryz.prog 120 S25m := memFGood (A := A25) Tryz.func120 (by kernel_rfl) c25 e25 mix (L := LM) lay_M (fun m xs r m' t tw h => by
  unfold G25 at h
  split at h
  · split at h
    · rename_i h0 h1 h2
      simp only [Option.some.injEq, Prod.mk.injEq, true_and] at h
      obtain ⟨rfl, rfl⟩ := h
      rw [sI_eq h0, sU_eq h1, sU_eq h2]
      exact ⟨_, LeV.refl _, v25⟩
    · cases h
  · cases h) (fun xs r h => by cases h)
theorem v27 {m : Mm} {t tw : TypeId} {a x : Int} : sxFn (E27 (Ω := SV × SH)) (An A27 2) C27 [.ptr 0 0, I a, U x] (objs LM t tw m) (KT 2) = some (U (mAddV m a x), objs LM t tw (mAdd m a x)) := by
  rw [n27]
  rcases inB3 a m.ws.length with ⟨h1, h3⟩ | ⟨h1, h2, h3⟩ | ⟨h1, h2, h3⟩
  · simp only [h1, h3, br_t, br_f, mLoadV, mAddV, mCasB, mLoad, mStore, mCas, mAdd, mSee, mSet, Mm.ok, cond_true, cond_false, Bool.false_and, Bool.true_and]
    rfl
  · simp only [h1, h2, h3, br_t, br_f, mLoadV, mAddV, mCasB, mLoad, mStore, mCas, mAdd, mSee, mSet, Mm.ok, cond_true, cond_false, Bool.false_and, Bool.true_and]
    rfl
  · simp only [h1, h2, h3, br_t, br_f, mLoadV, mAddV, mCasB, mLoad, mStore, mCas, mAdd, mSee, mSet, Mm.ok, Mm.get, cond_true, cond_false, Bool.false_and, Bool.true_and]
    rw [set_self h3]; rfl
def G27 (m : Mm) (l : List SV) : Option (Bool × SV × Mm) := match l with
  | [p0, p1] => match sI p0, sU p1 with
    | some a, some x => some (true, U (mAddV m a x), mAdd m a x)
    | _, _ => none
  | _ => none
def S27m {Ω : Type} : Spec Ω := memSpec [none, none, none] (findM LM.own) [] (memF LM G27 (fun _ => none))
theorem g27m : Good1 Tryz.prog 125 S27m := memFGood (A := A27) Tryz.func125 (by kernel_rfl) c27 e27 mix (L := LM) lay_M (fun m xs r m' t tw h => by
  unfold G27 at h
  split at h
  · split at h
    · rename_i h0 h1
      simp only [Option.some.injEq, Prod.mk.injEq, true_and] at h
      obtain ⟨rfl, rfl⟩ := h
      rw [sI_eq h0, sU_eq h1]
      exact ⟨_, LeV.refl _, v27⟩
    · cases h
  · cases h) (fun xs r h => by cases h)
end Go.Sx.Pr
