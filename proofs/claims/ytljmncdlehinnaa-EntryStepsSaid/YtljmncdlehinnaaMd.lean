/- The pure model: memory, a worker's state, the steps of the layers; packing of words. Plain Lean. -/
import Derived.Test.YtljmncdlehinnaaSxMem
set_option linter.unusedVariables false
set_option linter.unusedSimpArgs false
namespace Go.Sx.Md
open Go Go.Sx

/-! ### data -/
structure Cf where
  (a b c d e f g l : Int)
structure Ac where
  (k a x y o : Int)
structure Mm where
  c : Cf
  s : Ac
  ws : List Int
structure Wk where
  line : Int
  kind : Int
  opT : Int
  opX : Int
  slab : Int
  use : Bool
  by_ : Int
  nth : Int
  pinned : Bool
  E : Int
  rack : List Int
  t0 : Int
  l0 : List Int
  t1 : Int
  l1 : List Int
  t2 : Int
  l2 : List Int
  hold : List Int
  B : Int
  K : Int
  I : Int
  C : Int
  borrow : Int
  H : Int
  N : Int
  V : Int
  U : Int
  G : Int
  J : Int
  read : List Int
  T : Int
  ret : Int
  give : Bool

def ctsW : List CT := [.i .i64, .i .i64, .i .u64, .i .u64, .i .i64, .b, .i .i64, .i .i64, .b, .i .u64, .s .i64, .i .u64, .s .i64, .i .u64, .s .i64, .i .u64, .s .i64, .s .i64, .i .i64, .i .i64, .i .i64, .i .i64, .i .i64, .i .u64, .i .u64, .i .u64, .i .u64, .i .u64, .i .i64, .s .u64, .i .u64, .i .i64, .b]
abbrev L64 (l : List Int) : SV := .d (.ints .i64 l)
abbrev LU (l : List Int) : SV := .d (.ints .u64 l)

def encT (x : Wk) : List SV := [Sx.I x.kind, Sx.U x.opT, Sx.U x.opX, Sx.I x.slab, Sx.B x.use, Sx.I x.by_, Sx.I x.nth, Sx.B x.pinned, Sx.U x.E, L64 x.rack, Sx.U x.t0, L64 x.l0, Sx.U x.t1, L64 x.l1, Sx.U x.t2, L64 x.l2, L64 x.hold,
  Sx.I x.B, Sx.I x.K, Sx.I x.I, Sx.I x.C, Sx.I x.borrow, Sx.U x.H, Sx.U x.N, Sx.U x.V, Sx.U x.U, Sx.U x.G, Sx.I x.J, LU x.read, Sx.U x.T, Sx.I x.ret, Sx.B x.give]
/-- The cells of a worker's state. -/
def encW (x : Wk) : List SV := Sx.I x.line :: encT x

def ofF (iv : Nat → Int) (bv : Nat → Bool) (sv : Nat → List Int) : Wk :=
  ⟨iv 0, iv 1, iv 2, iv 3, iv 4, bv 5, iv 6, iv 7, bv 8, iv 9, sv 10, iv 11, sv 12, iv 13, sv 14, iv 15, sv 16, sv 17, iv 18, iv 19, iv 20, iv 21, iv 22, iv 23, iv 24, iv 25, iv 26, iv 27, iv 28, sv 29, iv 30, iv 31, bv 32⟩

theorem enc_ofF (iv : Nat → Int) (bv : Nat → Bool) (sv : Nat → List Int) : encW (ofF iv bv sv) = (cellsD ctsW 0 iv bv sv).map .d := rfl

def dv : SV → DV
  | .d x => x
  | _ => .v undef
def decW (c : List SV) : Wk := ofF (fun j => getI (dv (c.getD j .top))) (fun j => getB (dv (c.getD j .top))) (fun j => getS (dv (c.getD j .top)))

theorem dec_encW (x : Wk) : decW (encW x) = x := rfl

/-- Cells of these kinds. -/
def isC : List CT → List SV → Bool
  | [], [] => true
  | .i k :: cs, .d (.v (.int k' _)) :: r => kEq k k' && isC cs r
  | .b :: cs, .d (.v (.bool _)) :: r => isC cs r
  | .s k :: cs, .d (.ints k' _) :: r => kEq k k' && isC cs r
  | _, _ => false

theorem isC_enc : ∀ {cts : List CT} {c : List SV} {j : Nat} {iv : Nat → Int} {bv : Nat → Bool} {sv : Nat → List Int}, isC cts c = true → (∀ i, i < c.length → iv (j + i) = getI (dv (c.getD i .top))) → (∀ i, i < c.length → bv (j + i) = getB (dv (c.getD i .top))) →
    (∀ i, i < c.length → sv (j + i) = getS (dv (c.getD i .top))) → c = (cellsD cts j iv bv sv).map .d
  | [], [], _, _, _, _, _, _, _, _ => rfl
  | [], _ :: _, _, _, _, _, h, _, _, _ => by simp [isC] at h
  | c :: _, [], _, _, _, _, h, _, _, _ => by cases c <;> simp [isC] at h
  | c :: cs, x :: r, j, iv, bv, sv, h, h1, h2, h3 => by
    unfold isC at h
    split at h
    · rename_i e _; cases e
    · rename_i e1 e2
      cases e1; cases e2
      simp only [Bool.and_eq_true] at h
      have := kEq_eq h.1
      subst this
      have e1 := h1 0 (by simp)
      simp only [Nat.add_zero, List.getD_cons_zero, dv, getI] at e1
      simp only [cellsD, List.map_cons, e1]
      rw [← isC_enc (j := j + 1) (iv := iv) (bv := bv) (sv := sv) h.2 (fun i hi => by have := h1 (i + 1) (by simpa using hi); rw [show j + 1 + i = j + (i + 1) by omega]; simpa using this)
        (fun i hi => by have := h2 (i + 1) (by simpa using hi); rw [show j + 1 + i = j + (i + 1) by omega]; simpa using this)
        (fun i hi => by have := h3 (i + 1) (by simpa using hi); rw [show j + 1 + i = j + (i + 1) by omega]; simpa using this)]
    · rename_i e1 e2
      cases e1; cases e2
      have e1 := h2 0 (by simp)
      simp only [Nat.add_zero, List.getD_cons_zero, dv, getB] at e1
      simp only [cellsD, List.map_cons, e1]
      rw [← isC_enc (j := j + 1) (iv := iv) (bv := bv) (sv := sv) h (fun i hi => by have := h1 (i + 1) (by simpa using hi); rw [show j + 1 + i = j + (i + 1) by omega]; simpa using this)
        (fun i hi => by have := h2 (i + 1) (by simpa using hi); rw [show j + 1 + i = j + (i + 1) by omega]; simpa using this)
        (fun i hi => by have := h3 (i + 1) (by simpa using hi); rw [show j + 1 + i = j + (i + 1) by omega]; simpa using this)]
    · rename_i e1 e2
      cases e1; cases e2
      simp only [Bool.and_eq_true] at h
      have := kEq_eq h.1
      subst this
      have e1 := h3 0 (by simp)
      simp only [Nat.add_zero, List.getD_cons_zero, dv, getS] at e1
      simp only [cellsD, List.map_cons, e1]
      rw [← isC_enc (j := j + 1) (iv := iv) (bv := bv) (sv := sv) h.2 (fun i hi => by have := h1 (i + 1) (by simpa using hi); rw [show j + 1 + i = j + (i + 1) by omega]; simpa using this)
        (fun i hi => by have := h2 (i + 1) (by simpa using hi); rw [show j + 1 + i = j + (i + 1) by omega]; simpa using this)
        (fun i hi => by have := h3 (i + 1) (by simpa using hi); rw [show j + 1 + i = j + (i + 1) by omega]; simpa using this)]
    · cases h

theorem enc_decW {c : List SV} (h : isC ctsW c = true) : encW (decW c) = c := by
  unfold decW
  rw [enc_ofF]
  exact (isC_enc h (fun i _ => by simp) (fun i _ => by simp) (fun i _ => by simp)).symm
end Go.Sx.Md
