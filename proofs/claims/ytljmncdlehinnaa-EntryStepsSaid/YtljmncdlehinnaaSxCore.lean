/- The abstract interpreter sx over the model's code: symbolic values, symbolic heap, operations, code. Definitions only. -/
import Derived.Orders
set_option linter.unusedVariables false
set_option linter.unusedSimpArgs false
namespace Go.Sx

/-- Data without pointers: a scalar, an int slice by its list, a slice of elements of sz cells. -/
inductive DV where
  | v (x : Value)
  | ints (k : IntKind) (l : List Int)
  | sl (sz n : Nat) (f : Nat → Nat → DV)

/-- Symbolic values. -/
inductive SV where
  | d (x : DV)
  | ptr (l o : Nat)
  | pe (l i o : Nat)
  | rp (sz : Nat) (f : Nat → DV) (o : Nat)
  | own (l : Nat)
  | cs (l o sz n c : Nat)
  | mp (l : Nat)
  | fn (g : Fn) (first cap : List SV)
  | agg (cs : List SV)
  | tup (cs : List SV)
  | top

/-- Symbolic objects. -/
inductive SO where
  | dead
  | cells (t : TypeId) (cs : List SV)
  | rowi (t : TypeId) (k : IntKind) (xs : List Int)
  | row (t : TypeId) (sz n : Nat) (f : Nat → Nat → DV)
  | mapi (k : IntKind) (es : List (Value × Int))
  | mapb (es : List (Value × Bool))
  | maps (es : List (Value × SV))

abbrev SH := List SO

/-- A symbolic state: the temporaries that are known, and the heap. -/
structure SS where
  t : List (Nat × SV)
  h : SH

/-- How a piece of code is left. -/
inductive SE where
  | norm
  | exit (id : Nat)
  | ret

/-- The choice at a test that need not be known. -/
def br {α : Type} (b : Bool) (x y : α) : α := bif b then x else y

/-! ### small tools -/
def kEq : IntKind → IntKind → Bool
  | .i8, .i8 | .i16, .i16 | .i32, .i32 | .i64, .i64 | .u8, .u8 | .u16, .u16 | .u32, .u32 | .u64, .u64 => true
  | _, _ => false

def lk : List (Nat × SV) → Nat → SV
  | [], _ => .top
  | (k, v) :: r, t => bif Nat.beq k t then v else lk r t

def stt : List (Nat × SV) → Nat → SV → List (Nat × SV)
  | [], t, x => [(t, x)]
  | (k, v) :: r, t, x => bif Nat.beq k t then (t, x) :: r else bif Nat.blt t k then (t, x) :: (k, v) :: r else (k, v) :: stt r t x

def dropT : List (Nat × SV) → Nat → List (Nat × SV)
  | [], _ => []
  | (k, v) :: r, t => bif Nat.beq k t then r else (k, v) :: dropT r t

def nmem (t : Nat) : List Nat → Bool
  | [] => false
  | x :: r => bif Nat.beq x t then true else nmem t r

def keepT (ks : List Nat) : List (Nat × SV) → List (Nat × SV)
  | [] => []
  | (k, v) :: r => bif nmem k ks then (k, v) :: keepT ks r else keepT ks r

def hget (h : SH) (l : Nat) : SO := h.getD l .dead

/-- The cells of a value, if each can stand in a cell. -/
def isCell : SV → Bool
  | .d (.v (.agg _)) | .d (.v (.tuple _)) | .agg _ | .tup _ | .top => false
  | _ => true

def allCells : List SV → Bool
  | [] => true
  | x :: r => isCell x && allCells r

def cellsOf : SV → Option (List SV)
  | .agg cs => bif allCells cs then some cs else none
  | x => bif isCell x then some [x] else none

def asDs : List SV → Option (List DV)
  | [] => some []
  | .d x :: r => match asDs r with | some l => some (x :: l) | none => none
  | _ :: _ => none

/-! ### loads and stores -/
def rdRow (f : Nat → DV) (o : Nat) : Nat → List SV
  | 0 => []
  | n + 1 => .d (f o) :: rdRow f (o + 1) n

/-- n cells from an address on. -/
def ld (h : SH) (p : SV) (n : Nat) : Option (List SV) :=
  match p with
  | .ptr l o => match hget h l with
    | .cells _ c => bif Nat.ble (o + n) c.length then some ((c.drop o).take n) else none
    | _ => none
  | .pe l i o => match hget h l with
    | .row _ sz _ f => bif Nat.ble (o + n) sz then some (rdRow (f i) o n) else none
    | .rowi _ k xs => bif Nat.beq o 0 && Nat.beq n 1 then some [.d (.v (.int k (xs.getD i 0)))] else none
    | _ => none
  | .rp sz f o => bif Nat.ble (o + n) sz then some (rdRow f o n) else none
  | _ => none

def updRow (f : Nat → Nat → DV) (i o : Nat) (xs : List DV) : Nat → Nat → DV :=
  fun i' j => bif Nat.beq i' i && (Nat.ble o j && Nat.blt j (o + xs.length)) then xs.getD (j - o) (.v undef) else f i' j

/-- Frozen: an owned row becomes data. -/
def frz (h : SH) : SV → Option (SV × SH)
  | .own l => match hget h l with
    | .rowi _ k xs => some (.d (.ints k xs), h.set l .dead)
    | .row _ sz n f => some (.d (.sl sz n f), h.set l .dead)
    | _ => none
  | x => some (x, h)

def frzL (h : SH) : List SV → Option (List SV × SH)
  | [] => some ([], h)
  | x :: r => match frz h x with
    | some (y, h1) => match frzL h1 r with
      | some (ys, h2) => some (y :: ys, h2)
      | none => none
    | none => none

/-- Writes cells from an address on. -/
def sto (h : SH) (p : SV) (xs : List SV) : Option SH :=
  match p with
  | .ptr l o => match hget h l with
    | .cells t c => bif Nat.ble (o + xs.length) c.length then some (h.set l (.cells t (c.take o ++ (xs ++ c.drop (o + xs.length))))) else none
    | _ => none
  | .pe l i o => match frzL h xs with
    | none => none
    | some (ys, h1) => match hget h1 l with
    | .row t sz n f => bif Nat.ble (o + ys.length) sz then
        match asDs ys with
        | some ds => some (h1.set l (.row t sz n (updRow f i o ds)))
        | none => none
      else none
    | .rowi t k xs' => match ys with
      | [.d (.v (.int k' x))] => bif Nat.beq o 0 && kEq k k' then some (h1.set l (.rowi t k (xs'.set i x))) else none
      | _ => none
    | _ => none
  | _ => none

/-! ### operations on scalars -/
def shl (k : IntKind) (x y : Int) : Int := k.wrap (x * 2 ^ (min y.toNat k.bits))
def shr (k : IntKind) (x y : Int) : Int := x.fdiv (2 ^ (min y.toNat k.bits))
def band (k : IntKind) (x y : Int) : Int := k.wrap ((BitVec.ofInt k.bits x &&& BitVec.ofInt k.bits y).toNat : Int)
def bor (k : IntKind) (x y : Int) : Int := k.wrap ((BitVec.ofInt k.bits x ||| BitVec.ofInt k.bits y).toNat : Int)
def bxor (k : IntKind) (x y : Int) : Int := k.wrap ((BitVec.ofInt k.bits x ^^^ BitVec.ofInt k.bits y).toNat : Int)
def bandn (k : IntKind) (x y : Int) : Int := k.wrap ((BitVec.ofInt k.bits x &&& ~~~ BitVec.ofInt k.bits y).toNat : Int)

/-- How two values of a type are compared: the parts with their places. -/
inductive EqT where
  | bool | int | str | ptr | slc | fnc | mp
  | nil
  | cons (e : EqT) (o n : Nat) (a : Bool) (r : EqT)

def partS (a : Bool) (n o : Nat) (xs : List SV) : SV := bif a then .agg ((xs.drop o).take n) else xs.getD o .top

def eqS : EqT → SV → SV → Option Bool
  | .bool, .d (.v (.bool x)), .d (.v (.bool y)) => some (x == y)
  | .int, .d (.v (.int k x)), .d (.v (.int k' y)) => bif kEq k k' then some (x == y) else none
  | .str, .d (.v (.string x)), .d (.v (.string y)) => some (x == y)
  | .ptr, .d (.v (.pointer none)), .d (.v (.pointer none)) => some true
  | .ptr, .ptr _ _, .d (.v (.pointer none)) | .ptr, .d (.v (.pointer none)), .ptr _ _ => some false
  | .ptr, .pe _ _ _, .d (.v (.pointer none)) | .ptr, .d (.v (.pointer none)), .pe _ _ _ => some false
  | .ptr, .rp _ _ _, .d (.v (.pointer none)) | .ptr, .d (.v (.pointer none)), .rp _ _ _ => some false
  | .slc, .d (.v (.slice none _ _)), .d (.v (.slice none 0 0)) => some true
  | .slc, .d (.v (.slice (some _) _ _)), .d (.v (.slice none 0 0)) => some false
  | .slc, .d (.ints _ (_ :: _)), .d (.v (.slice none 0 0)) => some false
  | .slc, .d (.sl _ (_ + 1) _), .d (.v (.slice none 0 0)) => some false
  | .fnc, .d (.v .nilFunc), .d (.v .nilFunc) => some true
  | .mp, .d (.v (.map none)), .d (.v (.map none)) => some true
  | .mp, .mp _, .d (.v (.map none)) => some false
  | .nil, .agg _, .agg _ => some true
  | .cons e o n a r, .agg xs, .agg ys => match eqS e (partS a n o xs) (partS a n o ys), eqS r (.agg xs) (.agg ys) with
    | some p, some q => some (p && q)
    | _, _ => none
  | _, _, _ => none
 termination_by structural e => e

def cmp {Ω : Type} (o : BinOp) (x y : Int) (k : Bool → Option Ω) : Option Ω :=
  match o with
  | .lss => k (decide (x < y))
  | .leq => k (decide (x ≤ y))
  | .gtr => k (decide (x > y))
  | .geq => k (decide (x ≥ y))
  | _ => none

def arith {Ω : Type} (o : BinOp) (ka : IntKind) (x y : Int) (k : Int → Option Ω) : Option Ω :=
  match o with
  | .add => k (ka.wrap (x + y))
  | .sub => k (ka.wrap (x - y))
  | .mul => k (ka.wrap (x * y))
  | .quo => br (y == 0) none (k (ka.wrap (x.tdiv y)))
  | .rem => br (y == 0) none (k (x.tmod y))
  | .and => k (band ka x y)
  | .or => k (bor ka x y)
  | .xor => k (bxor ka x y)
  | .andNot => k (bandn ka x y)
  | _ => none

def isCmp : BinOp → Bool
  | .lss | .leq | .gtr | .geq => true
  | _ => false

def fits (n b : Nat) : Bool := decide (n * b ≤ 140737488355328)

def bop {Ω : Type} (o : BinOp) (a b : SV) (k : SV → Option Ω) : Option Ω :=
  match a, b with
  | .d (.v (.int ka x)), .d (.v (.int kb y)) => match o with
    | .shl => br (decide (y < 0)) none (k (.d (.v (.int ka (shl ka x y)))))
    | .shr => br (decide (y < 0)) none (k (.d (.v (.int ka (shr ka x y)))))
    | o => bif kEq ka kb then (bif isCmp o then cmp o x y fun r => k (.d (.v (.bool r))) else arith o ka x y fun r => k (.d (.v (.int ka r)))) else none
  | .d (.v (.string x)), .d (.v (.string y)) => match o with
    | .add => br (fits (x.size + y.size) 1) (k (.d (.v (.string (x ++ y))))) none
    | _ => none
  | _, _ => none

def unop {Ω : Type} (o : UnOp) (a : SV) (k : SV → Option Ω) : Option Ω :=
  match o, a with
  | .not, .d (.v (.bool b)) => k (.d (.v (.bool (!b))))
  | .neg, .d (.v (.int ka x)) => k (.d (.v (.int ka (ka.wrap (0 - x)))))
  | _, _ => none

/-! ### slices -/
def lenS (h : SH) : SV → Option Nat
  | .d (.ints _ l) => some l.length
  | .d (.sl _ n _) => some n
  | .d (.v (.slice none 0 0)) => some 0
  | .own l => match hget h l with
    | .rowi _ _ xs => some xs.length
    | .row _ _ n _ => some n
    | _ => none
  | .cs _ _ _ n _ => some n
  | _ => none

def addO : SV → Nat → Option SV
  | .ptr l o, n => some (.ptr l (o + n))
  | .pe l i o, n => some (.pe l i (o + n))
  | .rp sz f o, n => some (.rp sz f (o + n))
  | _, _ => none

/-- An index that is one of 0 .. n-1, with its cases parted (arrays). -/
def caseIx {Ω : Type} (i : Int) (k : Nat → Option Ω) : Nat → Nat → Option Ω
  | 0, _ => none
  | n + 1, j => br (i == (j : Int)) (k j) (caseIx i k n (j + 1))

def inB (i : Int) (n : Nat) : Bool := decide (0 ≤ i) && decide (i < (n : Int))

def ixArr {Ω : Type} (n sz : Nat) (x : SV) (i : Int) (k : SV → Option Ω) : Option Ω :=
  caseIx i (fun j => match addO x (j * sz) with | some p => k p | none => none) n 0

def ixSl {Ω : Type} (h : SH) (sz : Nat) (x : SV) (i : Int) (k : SV → Option Ω) : Option Ω :=
  match x with
  | .d (.ints kd l) => bif Nat.beq sz 1 then br (inB i l.length) (k (.rp 1 (fun _ => .v (.int kd (l.getD i.toNat 0))) 0)) none else none
  | .d (.sl sz' n f) => bif Nat.beq sz sz' then br (inB i n) (k (.rp sz' (f i.toNat) 0)) none else none
  | .own l => match hget h l with
    | .rowi _ _ xs => bif Nat.beq sz 1 then br (inB i xs.length) (k (.pe l i.toNat 0)) none else none
    | .row _ sz' n _ => bif Nat.beq sz sz' then br (inB i n) (k (.pe l i.toNat 0)) none else none
    | _ => none
  | .cs l o sz' n _ => bif Nat.beq sz sz' then caseIx i (fun j => k (.ptr l (o + j * sz'))) n 0 else none
  | _ => none

def ixAgg {Ω : Type} (n sz : Nat) (a : Bool) (x : SV) (i : Int) (k : SV → Option Ω) : Option Ω :=
  match x with
  | .agg c => caseIx i (fun j => bif a || Nat.blt (j * sz) c.length then k (partS a sz (j * sz) c) else none) n 0
  | _ => none

def ixStr {Ω : Type} (x : SV) (i : Int) (k : SV → Option Ω) : Option Ω :=
  match x with
  | .d (.v (.string s)) => br (inB i s.size) (k (.d (.v (.int .u8 ((s.data.toList.getD i.toNat 0).toNat : Int))))) none
  | _ => none

def optI (n : Nat) : Option SV → Option Int
  | none => some n
  | some (.d (.v (.int _ i))) => some i
  | _ => none

/-- The bounds of s[a:b:c] over data: within the length; c, where there is one, is b. -/
def okB (a b : Int) (n : Nat) (c : Option Int) : Bool :=
  decide (0 ≤ a) && (decide (a ≤ b) && (decide (b ≤ (n : Int)) && (match c with | none => true | some c => c == b)))

def optC : Option SV → Option (Option Int)
  | none => some none
  | some (.d (.v (.int _ i))) => some (some i)
  | _ => none

def slcS {Ω : Type} (esz : Nat) (x : SV) (lo hi mx : Option SV) (k : SV → Option Ω) : Option Ω :=
  match x with
  | .d (.ints kd l) => (match optI 0 lo, optI l.length hi, optC mx with
    | some a, some b, some c => bif Nat.beq esz 1 then br (okB a b l.length c) (k (.d (.ints kd ((l.take b.toNat).drop a.toNat)))) none else none
    | _, _, _ => none)
  | .d (.sl sz n f) => (match optI 0 lo, optI n hi, optC mx with
    | some a, some b, some c => bif Nat.beq esz sz && !(Nat.beq esz 0) then br (okB a b n c) (k (.d (.sl sz (b.toNat - a.toNat) (fun i => f (i + a.toNat))))) none else none
    | _, _, _ => none)
  | .d (.v (.string s)) => (match optI 0 lo, optI s.size hi, optC mx with
    | some a, some b, some none => bif Nat.beq esz 0 then br (okB a b s.size none) (k (.d (.v (.string (s.extract a.toNat b.toNat))))) none else none
    | _, _, _ => none)
  | _ => none

/-! ### append -/
def lkD (l : List DV) (j : Nat) : DV := l.getD j (.v undef)

def asInts (k : IntKind) : List SV → Option (List Int)
  | [] => some []
  | .d (.v (.int k' x)) :: r => bif kEq k k' then (match asInts k r with | some l => some (x :: l) | none => none) else none
  | _ :: _ => none

def intsOf (h : SH) (k : IntKind) : SV → Option (List Int)
  | .d (.ints k' l) => bif kEq k k' then some l else none
  | .d (.v (.slice none 0 0)) => some []
  | .d (.v (.slice (some _) 0 _)) => some []
  | .own l => match hget h l with
    | .rowi _ k' xs => bif kEq k k' then some xs else none
    | _ => none
  | .cs l o sz n _ => match hget h l with
    | .cells _ c => bif Nat.beq sz 1 && Nat.ble (o + n) c.length then asInts k ((c.drop o).take n) else none
    | _ => none
  | _ => none

def rowOf (h : SH) (sz : Nat) : SV → Option (Nat × (Nat → Nat → DV))
  | .d (.sl sz' n f) => bif Nat.beq sz sz' then some (n, f) else none
  | .d (.v (.slice none 0 0)) => some (0, fun _ _ => .v undef)
  | .d (.v (.slice (some _) 0 _)) => some (0, fun _ _ => .v undef)
  | .own l => match hget h l with
    | .row _ sz' n f => bif Nat.beq sz sz' then some (n, f) else none
    | _ => none
  | .cs l o sz' n _ => match hget h l with
    | .cells _ c => bif Nat.beq sz sz' && Nat.ble (o + n * sz) c.length then
        (match asDs ((c.drop o).take (n * sz)) with
        | some ds => some (n, fun i j => lkD ds (i * sz + j))
        | none => none) else none
    | _ => none
  | _ => none

def catF (n : Nat) (f g : Nat → Nat → DV) : Nat → Nat → DV := fun i => bif Nat.blt i n then f i else g (i - n)

/-- May append take this destination? nil, an owned row, a literal without room. -/
def dstOk (h : SH) (sz : Nat) : SV → Bool
  | .d (.v (.slice none 0 0)) | .own _ => true
  | .cs l o sz' n c => Nat.beq n c && (Nat.beq o 0 && (Nat.beq sz sz' && (match hget h l with | .cells _ x => Nat.beq x.length (n * sz) | _ => false)))
  | _ => false

/-! ### structs and literals -/
def fillS (cells : List SV) : List (Nat × Nat × SV) → Option (List SV)
  | [] => some cells
  | (o, sz, x) :: r => match cellsOf x with
    | some c => bif Nat.beq c.length sz && Nat.ble (o + sz) cells.length then fillS (cells.take o ++ (c ++ cells.drop (o + sz))) r else none
    | none => none

def rep (z : List SV) : Nat → List SV
  | 0 => []
  | n + 1 => z ++ rep z n

/-! ### maps -/
def keyOf : SV → Option Value
  | .d (.v (.int k a)) => some (.int k a)
  | .d (.v (.string a)) => some (.string a)
  | .d (.v (.bool a)) => some (.bool a)
  | .agg [.d (.v (.int k a)), .d (.v (.int l b))] => some (.agg #[.int k a, .int l b])
  | _ => none

def keyEq : Value → Value → Option Bool
  | .int k a, .int k' b => bif kEq k k' then some (a == b) else none
  | .string a, .string b => some (a == b)
  | .bool a, .bool b => some (a == b)
  | .agg ⟨[.int k a, .int l b]⟩, .agg ⟨[.int k' a', .int l' b']⟩ => bif kEq k k' && kEq l l' then some ((a == a') && (b == b')) else none
  | _, _ => none

/-! ### the environment: what is known of callees -/
/-- args, heap; continued with the result, the locs that were written, those to be forgotten, the heap. -/
abbrev Spec (Ω : Type) := List SV → SH → (SV → List Nat → List Nat → SH → Option Ω) → Option Ω
abbrev Env (Ω : Type) := Nat → Option (Spec Ω)

end Go.Sx
