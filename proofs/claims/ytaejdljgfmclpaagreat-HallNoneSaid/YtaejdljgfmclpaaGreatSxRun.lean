/- The abstract interpreter sx over the model's code: symbolic values, symbolic heap, operations, code. Definitions only. -/
import Derived.Orders
set_option linter.all false
set_option linter.unusedVariables false
set_option linter.unusedSimpArgs false
set_option linter.unnecessarySimpa false
namespace Go.Sx

/-- Data without pointers: a scalar, an int slice by its list, a slice of elements of sz cells. -/
inductive DV where
  | v (x : Value)
  | ints (k : IntKind) (l : List Int)
  | sl (sz n : Nat) (f : Nat → Nat → DV)

/-- Symbolic values. -/
inductive SV where
  | d (x : DV)
  | ptr (l o : Nat)
  | pe (l i o : Nat)
  | rp (sz : Nat) (f : Nat → DV) (o : Nat)
  | own (l : Nat)
  | cs (l o sz n c : Nat)
  | mp (l : Nat)
  | md (ks : List Value) (xs : List SV)
  | rc (cs : List SV) (o : Nat)
  | fn (g : Fn) (first cap : List SV)
  | agg (cs : List SV)
  | tup (cs : List SV)
  | top

/-- Symbolic objects. -/
inductive SO where
  | dead
  | cells (t : TypeId) (cs : List SV)
  | rowi (t : TypeId) (k : IntKind) (xs : List Int)
  | row (t : TypeId) (sz n : Nat) (f : Nat → Nat → DV)
  | mapi (k : IntKind) (es : List (Value × Int))
  | mapb (es : List (Value × Bool))
  | maps (es : List (Value × SV))

abbrev SH := List SO

/-- A symbolic state: the temporaries that are known, and the heap. -/
structure SS where
  t : List (Nat × SV)
  h : SH

/-- How a piece of code is left. -/
inductive SE where
  | norm
  | exit (id : Nat)
  | ret

/-- The choice at a test that need not be known. -/
def br {α : Type} (b : Bool) (x y : α) : α := bif b then x else y

/-! ### small tools -/
def kEq : IntKind → IntKind → Bool
  | .i8, .i8 | .i16, .i16 | .i32, .i32 | .i64, .i64 | .u8, .u8 | .u16, .u16 | .u32, .u32 | .u64, .u64 => true
  | _, _ => false

def lk : List (Nat × SV) → Nat → SV
  | [], _ => .top
  | (k, v) :: r, t => bif Nat.beq k t then v else lk r t

def stt : List (Nat × SV) → Nat → SV → List (Nat × SV)
  | [], t, x => [(t, x)]
  | (k, v) :: r, t, x => bif Nat.beq k t then (t, x) :: r else bif Nat.blt t k then (t, x) :: (k, v) :: r else (k, v) :: stt r t x

def dropT : List (Nat × SV) → Nat → List (Nat × SV)
  | [], _ => []
  | (k, v) :: r, t => bif Nat.beq k t then r else (k, v) :: dropT r t

def nmem (t : Nat) : List Nat → Bool
  | [] => false
  | x :: r => bif Nat.beq x t then true else nmem t r

def keepT (ks : List Nat) : List (Nat × SV) → List (Nat × SV)
  | [] => []
  | (k, v) :: r => bif nmem k ks then (k, v) :: keepT ks r else keepT ks r

def hget (h : SH) (l : Nat) : SO := h.getD l .dead

/-- The cells of a value, if each can stand in a cell. -/
def isCell : SV → Bool
  | .d (.v (.agg _)) | .d (.v (.tuple _)) | .agg _ | .tup _ | .top => false
  | _ => true

def allCells : List SV → Bool
  | [] => true
  | x :: r => isCell x && allCells r

def cellsOf : SV → Option (List SV)
  | .agg cs => bif allCells cs then some cs else none
  | x => bif isCell x then some [x] else none

def asDs : List SV → Option (List DV)
  | [] => some []
  | .d x :: r => match asDs r with | some l => some (x :: l) | none => none
  | _ :: _ => none

/-! ### loads and stores -/
def rdRow (f : Nat → DV) (o : Nat) : Nat → List SV
  | 0 => []
  | n + 1 => .d (f o) :: rdRow f (o + 1) n

/-- n cells from an address on. -/
def ld (h : SH) (p : SV) (n : Nat) : Option (List SV) :=
  match p with
  | .ptr l o => match hget h l with
    | .cells _ c => bif Nat.ble (o + n) c.length then some ((c.drop o).take n) else none
    | _ => none
  | .pe l i o => match hget h l with
    | .row _ sz _ f => bif Nat.ble (o + n) sz then some (rdRow (f i) o n) else none
    | .rowi _ k xs => bif Nat.beq o 0 && Nat.beq n 1 then some [.d (.v (.int k (xs.getD i 0)))] else none
    | _ => none
  | .rp sz f o => bif Nat.ble (o + n) sz then some (rdRow f o n) else none
  | .rc cs o => bif Nat.ble (o + n) cs.length then some ((cs.drop o).take n) else none
  | _ => none

def updRow (f : Nat → Nat → DV) (i o : Nat) (xs : List DV) : Nat → Nat → DV :=
  fun i' j => bif Nat.beq i' i && (Nat.ble o j && Nat.blt j (o + xs.length)) then xs.getD (j - o) (.v undef) else f i' j

/-- Frozen: an owned row becomes data. -/
def frz (h : SH) : SV → Option (SV × SH)
  | .own l => match hget h l with
    | .rowi _ k xs => some (.d (.ints k xs), h.set l .dead)
    | .row _ sz n f => some (.d (.sl sz n f), h.set l .dead)
    | _ => none
  | x => some (x, h)

def frzL (h : SH) : List SV → Option (List SV × SH)
  | [] => some ([], h)
  | x :: r => match frz h x with
    | some (y, h1) => match frzL h1 r with
      | some (ys, h2) => some (y :: ys, h2)
      | none => none
    | none => none

/-- A nil slice put where a list of integers stood is known as an empty list. -/
def softD (old new : DV) : DV := match new with
  | .v (.slice none 0 0) => match old with
    | .ints k _ => .ints k []
    | _ => new
  | _ => new
def softs (g : Nat → DV) : Nat → List DV → List DV
  | _, [] => []
  | o, d :: r => softD (g o) d :: softs g (o + 1) r

def dOf : SV → DV
  | .d y => y
  | _ => .v undef
def softV (old new : SV) : SV := match new with
  | .d x => .d (softD (dOf old) x)
  | x => x
def softVs : List SV → List SV → List SV
  | a :: r, x :: s => softV a x :: softVs r s
  | _, s => s

/-- Writes cells from an address on. -/
def sto (h : SH) (p : SV) (xs : List SV) : Option SH :=
  match p with
  | .ptr l o => match hget h l with
    | .cells t c => bif Nat.ble (o + xs.length) c.length then some (h.set l (.cells t (c.take o ++ (softVs (c.drop o) xs ++ c.drop (o + xs.length))))) else none
    | _ => none
  | .pe l i o => match frzL h xs with
    | none => none
    | some (ys, h1) => match hget h1 l with
    | .row t sz n f => bif Nat.ble (o + ys.length) sz then
        match asDs ys with
        | some ds => some (h1.set l (.row t sz n (updRow f i o (softs (f i) o ds))))
        | none => none
      else none
    | .rowi t k xs' => match ys with
      | [.d (.v (.int k' x))] => bif Nat.beq o 0 && kEq k k' then some (h1.set l (.rowi t k (xs'.set i x))) else none
      | _ => none
    | _ => none
  | _ => none

/-! ### operations on scalars -/
def shl (k : IntKind) (x y : Int) : Int := k.wrap (x * 2 ^ (min y.toNat k.bits))
def shr (k : IntKind) (x y : Int) : Int := x.fdiv (2 ^ (min y.toNat k.bits))
def band (k : IntKind) (x y : Int) : Int := k.wrap ((BitVec.ofInt k.bits x &&& BitVec.ofInt k.bits y).toNat : Int)
def bor (k : IntKind) (x y : Int) : Int := k.wrap ((BitVec.ofInt k.bits x ||| BitVec.ofInt k.bits y).toNat : Int)
def bxor (k : IntKind) (x y : Int) : Int := k.wrap ((BitVec.ofInt k.bits x ^^^ BitVec.ofInt k.bits y).toNat : Int)
def bandn (k : IntKind) (x y : Int) : Int := k.wrap ((BitVec.ofInt k.bits x &&& ~~~ BitVec.ofInt k.bits y).toNat : Int)

/-- How two values of a type are compared: the parts with their places. -/
inductive EqT where
  | bool | int | str | ptr | slc | fnc | mp
  | nil
  | cons (e : EqT) (o n : Nat) (a : Bool) (r : EqT)

def partS (a : Bool) (n o : Nat) (xs : List SV) : SV := bif a then .agg ((xs.drop o).take n) else xs.getD o .top

def eqS : EqT → SV → SV → Option Bool
  | .bool, .d (.v (.bool x)), .d (.v (.bool y)) => some (x == y)
  | .int, .d (.v (.int k x)), .d (.v (.int k' y)) => bif kEq k k' then some (x == y) else none
  | .str, .d (.v (.string x)), .d (.v (.string y)) => some (x == y)
  | .ptr, .d (.v (.pointer none)), .d (.v (.pointer none)) => some true
  | .ptr, .ptr _ _, .d (.v (.pointer none)) | .ptr, .d (.v (.pointer none)), .ptr _ _ => some false
  | .ptr, .pe _ _ _, .d (.v (.pointer none)) | .ptr, .d (.v (.pointer none)), .pe _ _ _ => some false
  | .ptr, .rp _ _ _, .d (.v (.pointer none)) | .ptr, .d (.v (.pointer none)), .rp _ _ _ => some false
  | .slc, .d (.v (.slice none _ _)), .d (.v (.slice none 0 0)) => some true
  | .slc, .d (.v (.slice (some _) _ _)), .d (.v (.slice none 0 0)) => some false
  | .slc, .d (.ints _ (_ :: _)), .d (.v (.slice none 0 0)) => some false
  | .slc, .d (.sl _ (_ + 1) _), .d (.v (.slice none 0 0)) => some false
  | .slc, .cs _ _ _ _ _, .d (.v (.slice none 0 0)) => some false
  | .fnc, .d (.v .nilFunc), .d (.v .nilFunc) => some true
  | .mp, .d (.v (.map none)), .d (.v (.map none)) => some true
  | .mp, .mp _, .d (.v (.map none)) => some false
  | .nil, .agg _, .agg _ => some true
  | .cons e o n a r, .agg xs, .agg ys => match eqS e (partS a n o xs) (partS a n o ys), eqS r (.agg xs) (.agg ys) with
    | some p, some q => some (p && q)
    | _, _ => none
  | _, _, _ => none
 termination_by structural e => e

def cmp {Ω : Type} (o : BinOp) (x y : Int) (k : Bool → Option Ω) : Option Ω :=
  match o with
  | .lss => k (decide (x < y))
  | .leq => k (decide (x ≤ y))
  | .gtr => k (decide (x > y))
  | .geq => k (decide (x ≥ y))
  | _ => none

def arith {Ω : Type} (o : BinOp) (ka : IntKind) (x y : Int) (k : Int → Option Ω) : Option Ω :=
  match o with
  | .add => k (ka.wrap (x + y))
  | .sub => k (ka.wrap (x - y))
  | .mul => k (ka.wrap (x * y))
  | .quo => br (y == 0) none (k (ka.wrap (x.tdiv y)))
  | .rem => br (y == 0) none (k (x.tmod y))
  | .and => k (band ka x y)
  | .or => k (bor ka x y)
  | .xor => k (bxor ka x y)
  | .andNot => k (bandn ka x y)
  | _ => none

def isCmp : BinOp → Bool
  | .lss | .leq | .gtr | .geq => true
  | _ => false

def fits (n b : Nat) : Bool := decide (n * b ≤ 140737488355328)

def bop {Ω : Type} (o : BinOp) (a b : SV) (k : SV → Option Ω) : Option Ω :=
  match a, b with
  | .d (.v (.int ka x)), .d (.v (.int kb y)) => match o with
    | .shl => br (decide (y < 0)) none (k (.d (.v (.int ka (shl ka x y)))))
    | .shr => br (decide (y < 0)) none (k (.d (.v (.int ka (shr ka x y)))))
    | o => bif kEq ka kb then (bif isCmp o then cmp o x y fun r => k (.d (.v (.bool r))) else arith o ka x y fun r => k (.d (.v (.int ka r)))) else none
  | .d (.v (.string x)), .d (.v (.string y)) => match o with
    | .add => br (fits (x.size + y.size) 1) (k (.d (.v (.string (x ++ y))))) none
    | _ => none
  | _, _ => none

def unop {Ω : Type} (o : UnOp) (a : SV) (k : SV → Option Ω) : Option Ω :=
  match o, a with
  | .not, .d (.v (.bool b)) => k (.d (.v (.bool (!b))))
  | .neg, .d (.v (.int ka x)) => k (.d (.v (.int ka (ka.wrap (0 - x)))))
  | _, _ => none

/-! ### slices -/
def lenS (h : SH) : SV → Option Nat
  | .d (.ints _ l) => some l.length
  | .d (.sl _ n _) => some n
  | .d (.v (.slice none 0 0)) => some 0
  | .own l => match hget h l with
    | .rowi _ _ xs => some xs.length
    | .row _ _ n _ => some n
    | _ => none
  | .cs _ _ _ n _ => some n
  | _ => none

def addO : SV → Nat → Option SV
  | .ptr l o, n => some (.ptr l (o + n))
  | .pe l i o, n => some (.pe l i (o + n))
  | .rp sz f o, n => some (.rp sz f (o + n))
  | _, _ => none

/-- An index that is one of 0 .. n-1, with its cases parted (arrays). -/
def caseIx {Ω : Type} (i : Int) (k : Nat → Option Ω) : Nat → Nat → Option Ω
  | 0, _ => none
  | n + 1, j => br (i == (j : Int)) (k j) (caseIx i k n (j + 1))

def inB (i : Int) (n : Nat) : Bool := decide (0 ≤ i) && decide (i < (n : Int))

def ixArr {Ω : Type} (n sz : Nat) (x : SV) (i : Int) (k : SV → Option Ω) : Option Ω :=
  caseIx i (fun j => match addO x (j * sz) with | some p => k p | none => none) n 0

def ixSl {Ω : Type} (h : SH) (sz : Nat) (x : SV) (i : Int) (k : SV → Option Ω) : Option Ω :=
  match x with
  | .d (.ints kd l) => bif Nat.beq sz 1 then br (inB i l.length) (k (.rp 1 (fun _ => .v (.int kd (l.getD i.toNat 0))) 0)) none else none
  | .d (.sl sz' n f) => bif Nat.beq sz sz' then br (inB i n) (k (.rp sz' (f i.toNat) 0)) none else none
  | .own l => match hget h l with
    | .rowi _ _ xs => bif Nat.beq sz 1 then br (inB i xs.length) (k (.pe l i.toNat 0)) none else none
    | .row _ sz' n _ => bif Nat.beq sz sz' then br (inB i n) (k (.pe l i.toNat 0)) none else none
    | _ => none
  | .cs l o sz' n _ => bif Nat.beq sz sz' then caseIx i (fun j => k (.ptr l (o + j * sz'))) n 0 else none
  | _ => none

def ixAgg {Ω : Type} (n sz : Nat) (a : Bool) (x : SV) (i : Int) (k : SV → Option Ω) : Option Ω :=
  match x with
  | .agg c => caseIx i (fun j => bif a || Nat.blt (j * sz) c.length then k (partS a sz (j * sz) c) else none) n 0
  | _ => none

def ixStr {Ω : Type} (x : SV) (i : Int) (k : SV → Option Ω) : Option Ω :=
  match x with
  | .d (.v (.string s)) => br (inB i s.size) (k (.d (.v (.int .u8 ((s.data.toList.getD i.toNat 0).toNat : Int))))) none
  | _ => none

def optI (n : Nat) : Option SV → Option Int
  | none => some n
  | some (.d (.v (.int _ i))) => some i
  | _ => none

/-- The bounds of s[a:b:c] over data: within the length; c, where there is one, is b. -/
def okB (a b : Int) (n : Nat) (c : Option Int) : Bool :=
  decide (0 ≤ a) && (decide (a ≤ b) && (decide (b ≤ (n : Int)) && (match c with | none => true | some c => c == b)))

def optC : Option SV → Option (Option Int)
  | none => some none
  | some (.d (.v (.int _ i))) => some (some i)
  | _ => none

def slcS {Ω : Type} (esz : Nat) (x : SV) (lo hi mx : Option SV) (k : SV → Option Ω) : Option Ω :=
  match x with
  | .d (.ints kd l) => (match optI 0 lo, optI l.length hi, optC mx with
    | some a, some b, some c => bif Nat.beq esz 1 then br (okB a b l.length c) (k (.d (.ints kd ((l.take b.toNat).drop a.toNat)))) none else none
    | _, _, _ => none)
  | .d (.sl sz n f) => (match optI 0 lo, optI n hi, optC mx with
    | some a, some b, some c => bif Nat.beq esz sz && !(Nat.beq esz 0) then br (okB a b n c) (k (.d (.sl sz (b.toNat - a.toNat) (fun i => f (i + a.toNat))))) none else none
    | _, _, _ => none)
  | .d (.v (.string s)) => (match optI 0 lo, optI s.size hi, optC mx with
    | some a, some b, some none => bif Nat.beq esz 0 then br (okB a b s.size none) (k (.d (.v (.string (s.extract a.toNat b.toNat))))) none else none
    | _, _, _ => none)
  | _ => none

/-! ### append -/
def lkD (l : List DV) (j : Nat) : DV := l.getD j (.v undef)

def asInts (k : IntKind) : List SV → Option (List Int)
  | [] => some []
  | .d (.v (.int k' x)) :: r => bif kEq k k' then (match asInts k r with | some l => some (x :: l) | none => none) else none
  | _ :: _ => none

def intsOf (h : SH) (k : IntKind) : SV → Option (List Int)
  | .d (.ints k' l) => bif kEq k k' then some l else none
  | .d (.v (.slice none 0 0)) => some []
  | .d (.v (.slice (some _) 0 _)) => some []
  | .own l => match hget h l with
    | .rowi _ k' xs => bif kEq k k' then some xs else none
    | _ => none
  | .cs l o sz n _ => match hget h l with
    | .cells _ c => bif Nat.beq sz 1 && Nat.ble (o + n) c.length then asInts k ((c.drop o).take n) else none
    | _ => none
  | _ => none

def rowOf (h : SH) (sz : Nat) : SV → Option (Nat × (Nat → Nat → DV))
  | .d (.sl sz' n f) => bif Nat.beq sz sz' then some (n, f) else none
  | .d (.v (.slice none 0 0)) => some (0, fun _ _ => .v undef)
  | .d (.v (.slice (some _) 0 _)) => some (0, fun _ _ => .v undef)
  | .own l => match hget h l with
    | .row _ sz' n f => bif Nat.beq sz sz' then some (n, f) else none
    | _ => none
  | .cs l o sz' n _ => match hget h l with
    | .cells _ c => bif Nat.beq sz sz' && Nat.ble (o + n * sz) c.length then
        (match asDs ((c.drop o).take (n * sz)) with
        | some ds => some (n, fun i j => lkD ds (i * sz + j))
        | none => none) else none
    | _ => none
  | _ => none

def catF (n : Nat) (f g : Nat → Nat → DV) : Nat → Nat → DV := fun i => bif Nat.blt i n then f i else g (i - n)

/-- May append take this destination? nil, an owned row, a literal without room. -/
def dstOk (h : SH) (sz : Nat) : SV → Bool
  | .d (.v (.slice none 0 0)) | .own _ => true
  | .cs l o sz' n c => Nat.beq n c && (Nat.beq o 0 && (Nat.beq sz sz' && (match hget h l with | .cells _ x => Nat.beq x.length (n * sz) | _ => false)))
  | _ => false

/-! ### structs and literals -/
def fillS (cells : List SV) : List (Nat × Nat × SV) → Option (List SV)
  | [] => some cells
  | (o, sz, x) :: r => match cellsOf x with
    | some c => bif Nat.beq c.length sz && Nat.ble (o + sz) cells.length then fillS (cells.take o ++ (c ++ cells.drop (o + sz))) r else none
    | none => none

def rep (z : List SV) : Nat → List SV
  | 0 => []
  | n + 1 => z ++ rep z n

/-! ### maps -/
/-- A key of a kind: 0 an integer, 1 a string, 2 a boolean, 3 a pair of integers. -/
def keyOf (kk : Nat) : SV → Option Value
  | .d (.v (.int k a)) => bif Nat.beq kk 0 then some (.int k a) else none
  | .d (.v (.string a)) => bif Nat.beq kk 1 then some (.string a) else none
  | .d (.v (.bool a)) => bif Nat.beq kk 2 then some (.bool a) else none
  | .agg [.d (.v (.int k a)), .d (.v (.int l b))] => bif Nat.beq kk 3 then some (.agg #[.int k a, .int l b]) else none
  | _ => none

def keyEq : Value → Value → Option Bool
  | .int k a, .int k' b => bif kEq k k' then some (a == b) else none
  | .string a, .string b => some (a == b)
  | .bool a, .bool b => some (a == b)
  | .agg ⟨[.int k a, .int l b]⟩, .agg ⟨[.int k' a', .int l' b']⟩ => bif kEq k k' && kEq l l' then some ((a == a') && (b == b')) else none
  | _, _ => none

/-! ### the environment: what is known of callees -/
/-- args, heap; continued with the result, the locs that were written, those to be forgotten, the heap. -/
abbrev Spec (Ω : Type) := List SV → SH → (SV → List Nat → List Nat → SH → Option Ω) → Option Ω
abbrev Env (Ω : Type) := Nat → Option (Spec Ω)

end Go.Sx

/- The abstract interpreter, second part: compiled operations, regions, code, functions. Definitions only. -/
namespace Go.Sx

/-! ### what a value mentions -/
 mutual
def ment (p : Nat → Bool) : SV → Bool
  | .ptr l _ | .pe l _ _ | .own l | .mp l | .cs l _ _ _ _ => p l
  | .fn _ a b => mentL p a || mentL p b
  | .agg c | .tup c | .md _ c | .rc c _ => mentL p c
  | .d _ | .rp _ _ _ | .top => false
def mentL (p : Nat → Bool) : List SV → Bool
  | [] => false
  | x :: r => ment p x || mentL p r
end

def mentE (p : Nat → Bool) : List (Value × SV) → Bool
  | [] => false
  | (_, x) :: r => ment p x || mentE p r

def mentO (p : Nat → Bool) : SO → Bool
  | .cells _ c => mentL p c
  | .maps es => mentE p es
  | _ => false

def mentT (p : Nat → Bool) : List (Nat × SV) → Bool
  | [] => false
  | (_, x) :: r => ment p x || mentT p r

def mentH (p : Nat → Bool) : SH → Bool
  | [] => false
  | o :: r => mentO p o || mentH p r

/-- Everything that mentions loc l is forgotten. -/
def scrubL (l : Nat) : List SV → List SV
  | [] => []
  | x :: r => (bif ment (Nat.beq l) x then .top else x) :: scrubL l r

def scrubE (l : Nat) : List (Value × SV) → List (Value × SV)
  | [] => []
  | (q, x) :: r => (q, bif ment (Nat.beq l) x then .top else x) :: scrubE l r

def scrubO (l : Nat) : SO → SO
  | .cells t c => .cells t (scrubL l c)
  | .maps es => .maps (scrubE l es)
  | o => o

def scrubH (l : Nat) : SH → SH
  | [] => []
  | o :: r => scrubO l o :: scrubH l r

def scrubT (l : Nat) : List (Nat × SV) → List (Nat × SV)
  | [] => []
  | (k, x) :: r => bif ment (Nat.beq l) x then scrubT l r else (k, x) :: scrubT l r

def scrubTs (t : List (Nat × SV)) : List Nat → List (Nat × SV)
  | [] => t
  | l :: r => scrubTs (scrubT l t) r

 mutual
def locsD : SV → List Nat
  | .ptr l _ | .pe l _ _ | .own l | .mp l | .cs l _ _ _ _ => [l]
  | .fn _ a b => locsDL a ++ locsDL b
  | .agg c | .tup c | .md _ c | .rc c _ => locsDL c
  | .d _ | .rp _ _ _ | .top => []
def locsDL : List SV → List Nat
  | [] => []
  | x :: r => locsD x ++ locsDL r
end

def locsDE : List (Value × SV) → List Nat
  | [] => []
  | (_, x) :: r => locsD x ++ locsDE r

def locsO : SO → List Nat
  | .cells _ c => locsDL c
  | .maps es => locsDE es
  | _ => []

/-- The locs that are reached. -/
def clos (h : SH) : Nat → List Nat → List Nat → List Nat
  | 0, _, seen => seen
  | _ + 1, [], seen => seen
  | n + 1, l :: r, seen => bif nmem l seen then clos h n r seen else clos h n (locsO (hget h l) ++ r) (l :: seen)

/-- The objects from n0 on that are not among these are given up. -/
def fadeH (ks : List Nat) (n0 : Nat) : Nat → SH → SH
  | _, [] => []
  | i, o :: r => (bif Nat.blt i n0 || nmem i ks then o else .dead) :: fadeH ks n0 (i + 1) r

def topOf : List Nat → Nat
  | [] => 0
  | l :: r => max (l + 1) (topOf r)

def locsT : List (Nat × SV) → List Nat
  | [] => []
  | (_, x) :: r => locsD x ++ locsT r

def locsH : SH → List Nat
  | [] => []
  | o :: r => locsO o ++ locsH r

/-- Objects from n on are dropped, where nothing that stays mentions them. -/
def gc (lv : List Nat) (n : Nat) (s : SS) : SS :=
  let t := keepT lv s.t
  let ks := clos s.h 100000 (locsT t ++ locsH (s.h.take n)) []
  let h2 := fadeH ks n 0 s.h
  let n1 := max n (topOf ks)
  bif mentT (Nat.ble n1) t || mentH (Nat.ble n1) (h2.take n1) then ⟨t, h2⟩ else ⟨t, h2.take n1⟩

/-! ### compiled code: the types' facts written into the operations -/
inductive CA where
  | t (n : Nat)
  | c (x : SV)

inductive CO where
  | mv (x : CA)
  | pick (c a b : CA)
  | newc (t : TypeId) (z : List SV)
  | box (t n : Nat) (x : CA)
  | bld (z : List SV) (ps : List (Nat × Nat × CA))
  | bsl (e sz n : Nat) (z : List SV) (ps : List (Nat × Nat × CA))
  | ld (n : Nat) (a : Bool) (x : CA)
  | st (n : Nat) (p x : CA)
  | nilc (x : CA)
  | bin (o : BinOp) (x y : CA)
  | eq (e : EqT) (neg : Bool) (x y : CA)
  | un (o : UnOp) (x : CA)
  | conv (k : IntKind) (x : CA)
  | convs (x : CA)
  | mkf (g : Fn) (f c : List CA)
  | mki (k : IntKind)
  | mkb
  | mkm
  | mks (e sz by_ : Nat) (k : Option IntKind) (z : List SV) (n : CA)
  | slc (sz : Nat) (x : CA) (lo hi mx : Option CA)
  | fa (o : Nat) (x : CA)
  | fld (o n : Nat) (a : Bool) (x : CA)
  | ixa (n sz : Nat) (x i : CA)
  | ixs (sz : Nat) (x i : CA)
  | ixg (n sz : Nat) (a : Bool) (x i : CA)
  | ixc (x i : CA)
  | ext (i : Nat) (x : CA)
  | call (f : CA) (args : List CA)
  | len (x : CA)
  | lens (x : CA)
  | lenm (x : CA)
  | lenc (n : Nat)
  | app (e sz by_ : Nat) (k : Option IntKind) (a b : CA)
  | mn (a b : CA)
  | mx (a b : CA)
  | lku (kk : Nat) (z : SV) (ok : Bool) (m q : CA)
  | upd (kk : Nat) (m q x : CA)
  | del (kk : Nat) (m q : CA)
  | bad

structure CR where
  dst : Option Nat
  op : CO
  guard : Option (Nat × Bool)
  anc : Nat

inductive CC where
  | skip
  | reg (draw : Bool) (ops : List CR)
  | seq (a b : CC)
  | cond (n : Nat) (a b : CC)
  | block (id : Nat) (a : CC)
  | loop (a : CC)
  | exit (id : Nat)
  | ret
  | bad

/-! ### operations -/
/-- What the one who proves says of a function's code: temporaries to be kept behind a region; those alive at the head of the loop of block id; how many locs there are at its begin, and which of them it may append to. -/
structure Ann where
  keep : List Nat
  live : List (Nat × List Nat)
  n0 : Nat := 0
  ap : List Nat := []
  kc : List Nat := []
  pu : List Nat := []
  mc : Bool := false

def Ann.ok (A : Ann) (l : Nat) : Bool := Nat.ble A.n0 l || nmem l A.ap

def allOk (A : Ann) : List Nat → Bool
  | [] => true
  | l :: r => A.ok l && allOk A r

section
variable {Ω : Type} (env : Env Ω) (A : Ann)

def ev (t : List (Nat × SV)) : CA → SV
  | .t n => lk t n
  | .c x => x

def evL (t : List (Nat × SV)) : List CA → List SV
  | [] => []
  | x :: r => ev t x :: evL t r

def evO (t : List (Nat × SV)) : Option CA → Option SV
  | none => none
  | some x => some (ev t x)

def evP (t : List (Nat × SV)) : List (Nat × Nat × CA) → List (Nat × Nat × SV)
  | [] => []
  | (o, n, x) :: r => (o, n, ev t x) :: evP t r

def locsOf : SV → List Nat
  | .ptr l _ | .pe l _ _ | .own l | .mp l | .cs l _ _ _ _ => [l]
  | _ => []

def vInt (x : Int) : SV := .d (.v (.int .i64 x))

def putOwn (s : SS) (a : SV) (o : SO) (k : SV → List Nat → SS → Option Ω) : Option Ω :=
  match a with
  | .own l => bif A.ok l then k (.own l) [l] ⟨scrubT l s.t, (scrubH l s.h).set l o⟩ else none
  | .cs l _ _ _ _ => bif A.ok l then k (.own s.h.length) [l] ⟨scrubT l s.t, (scrubH l s.h).set l .dead ++ [o]⟩ else none
  | _ => k (.own s.h.length) [] ⟨s.t, s.h ++ [o]⟩

def appS (s : SS) (e sz by_ : Nat) (kd : Option IntKind) (a b : SV) (k : SV → List Nat → SS → Option Ω) : Option Ω :=
  bif dstOk s.h sz a then
    match kd with
    | some kd => match intsOf s.h kd a, intsOf s.h kd b with
      | some xs, some ys => br (fits (xs.length + ys.length) by_) (putOwn A s a (.rowi e kd (xs ++ ys)) k) none
      | _, _ => none
    | none => match rowOf s.h sz a, rowOf s.h sz b with
      | some (n, f), some (m, g) => br (fits (n + m) by_) (putOwn A s a (.row e sz (n + m) (catF n f g)) k) none
      | _, _ => none
  else none

/-- An append that moves the row to a new loc: nothing need be forgotten. -/
def putNew (s : SS) (a : SV) (o : SO) (k : SV → List Nat → SS → Option Ω) : Option Ω :=
  match a with
  | .own l | .cs l _ _ _ _ => k (.own s.h.length) [l] ⟨s.t, s.h.set l .dead ++ [o]⟩
  | _ => k (.own s.h.length) [] ⟨s.t, s.h ++ [o]⟩

def appE (s : SS) (e sz by_ : Nat) (kd : Option IntKind) (a b : SV) (k : SV → List Nat → SS → Option Ω) : Option Ω :=
  bif dstOk s.h sz a then
    match kd with
    | some kd => match intsOf s.h kd a, intsOf s.h kd b with
      | some xs, some ys => br (fits (xs.length + ys.length) by_) (putNew s a (.rowi e kd (xs ++ ys)) k) none
      | _, _ => none
    | none => match rowOf s.h sz a, rowOf s.h sz b with
      | some (n, f), some (m, g) => br (fits (n + m) by_) (putNew s a (.row e sz (n + m) (catF n f g)) k) none
      | _, _ => none
  else none

/-- Zero cells as they are: int slices are nil. -/
def hardL : List SV → List SV
  | [] => []
  | x :: r => (match x with | .d (.ints _ _) => .d (.v (.slice none 0 0)) | x => x) :: hardL r

def findS {Ω : Type} (q : Value) (kn : Option Ω) (k : SV → Option Ω) : List (Value × SV) → Option Ω
  | [] => kn
  | (p, x) :: r => match keyEq q p with
    | some b => br b (k x) (findS q kn k r)
    | none => none

/-- Can a key be compared with each of a map's? -/
def keysOk {α : Type} (q : Value) : List (Value × α) → Bool
  | [] => true
  | (p, _) :: r => (keyEq q p).isSome && keysOk q r

/-- The value that a key leads to. -/
def getM {α : Type} (q : Value) : List (Value × α) → Option α
  | [] => none
  | (p, x) :: r => bif (keyEq q p).getD false then some x else getM q r

def setM {α : Type} (q : Value) (y : α) : List (Value × α) → List (Value × α)
  | [] => [(q, y)]
  | (p, x) :: r => bif (keyEq q p).getD false then (q, y) :: r else (p, x) :: setM q y r

def delM {α : Type} (q : Value) : List (Value × α) → List (Value × α)
  | [] => []
  | (p, x) :: r => bif (keyEq q p).getD false then r else (p, x) :: delM q r

def two (ok : Bool) (x : SV) (b : Bool) : SV := bif ok then .tup [x, .d (.v (.bool b))] else x

def sop (op : CO) (s : SS) (k : SV → List Nat → SS → Option Ω) : Option Ω :=
  match op with
  | .mv x => k (ev s.t x) [] s
  | .pick c a b => match ev s.t c, ev s.t a, ev s.t b with
    | .d (.v (.bool x)), .d (.v (.bool p)), .d (.v (.bool q)) => k (.d (.v (.bool (bif x then p else q)))) [] s
    | .d (.v (.bool x)), p, q => br x (k p [] s) (k q [] s)
    | _, _, _ => none
  | .newc t z => k (.ptr s.h.length 0) [] ⟨s.t, s.h ++ [.cells t z]⟩
  | .box t n x => match cellsOf (ev s.t x) with
    | some z => bif Nat.beq z.length n then k (.ptr s.h.length 0) [] ⟨s.t, s.h ++ [.cells t z]⟩ else none
    | none => none
  | .bld z ps => match fillS z (evP s.t ps) with
    | some c => k (.agg c) [] s
    | none => none
  | .bsl e sz n z ps => match fillS (rep z n) (evP s.t ps) with
    | some c => k (.cs s.h.length 0 sz n n) [] ⟨s.t, s.h ++ [.cells e c]⟩
    | none => none
  | .ld n a x => match ld s.h (ev s.t x) n with
    | some c => bif a then k (.agg c) [] s else (match c with | [x] => k x [] s | _ => none)
    | none => none
  | .st n p x => match cellsOf (ev s.t x) with
    | some c => bif Nat.beq c.length n then (match sto s.h (ev s.t p) c with
      | some h => k .top (locsOf (ev s.t p) ++ c.flatMap locsOf) ⟨s.t, h⟩
      | none => none) else none
    | none => none
  | .nilc x => match ev s.t x with
    | .ptr l o => k (.ptr l o) [] s
    | .pe l i o => k (.pe l i o) [] s
    | .rp sz f o => k (.rp sz f o) [] s
    | .fn (.func g) a b => k (.fn (.func g) a b) [] s
    | _ => none
  | .bin o x y => bop o (ev s.t x) (ev s.t y) fun r => k r [] s
  | .eq e neg x y => match eqS e (ev s.t x) (ev s.t y) with
    | some c => k (.d (.v (.bool (bif neg then !c else c)))) [] s
    | none => none
  | .un o x => unop o (ev s.t x) fun r => k r [] s
  | .conv kd x => match ev s.t x with
    | .d (.v (.int _ n)) => k (.d (.v (.int kd (kd.wrap n)))) [] s
    | _ => none
  | .convs x => match ev s.t x with
    | .d (.v (.string y)) => k (.d (.v (.string y))) [] s
    | _ => none
  | .mkf g f c => k (.fn g (evL s.t f) (evL s.t c)) [] s
  | .mki kd => k (.mp s.h.length) [] ⟨s.t, s.h ++ [.mapi kd []]⟩
  | .mkb => k (.mp s.h.length) [] ⟨s.t, s.h ++ [.mapb []]⟩
  | .mkm => k (.mp s.h.length) [] ⟨s.t, s.h ++ [.maps []]⟩
  | .mks e sz by_ kd z n => match ev s.t n with
    | .d (.v (.int _ n)) => br (decide (0 ≤ n) && fits n.toNat by_)
        (match kd with
        | some kd => match asInts kd z with
          | some [x] => k (.own s.h.length) [] ⟨s.t, s.h ++ [.rowi e kd (List.replicate n.toNat x)]⟩
          | _ => none
        | none => bif A.mc then k (.cs s.h.length 0 sz n.toNat n.toNat) [] ⟨s.t, s.h ++ [.cells e (rep (hardL z) n.toNat)]⟩ else match asDs z with
          | some ds => k (.own s.h.length) [] ⟨s.t, s.h ++ [.row e sz n.toNat (fun _ j => lkD ds j)]⟩
          | none => none) none
    | _ => none
  | .slc sz x lo hi mx => slcS sz (ev s.t x) (evO s.t lo) (evO s.t hi) (evO s.t mx) fun r => k r [] s
  | .fa o x => match addO (ev s.t x) o with
    | some r => k r [] s
    | none => none
  | .fld o n a x => match ev s.t x with
    | .agg c => bif a || Nat.blt o c.length then k (partS a n o c) [] s else none
    | _ => none
  | .ixa n sz x i => match ev s.t i with
    | .d (.v (.int _ j)) => ixArr n sz (ev s.t x) j fun r => k r [] s
    | _ => none
  | .ixs sz x i => match ev s.t i with
    | .d (.v (.int _ j)) => ixSl s.h sz (ev s.t x) j fun r => k r [] s
    | _ => none
  | .ixg n sz a x i => match ev s.t i with
    | .d (.v (.int _ j)) => ixAgg n sz a (ev s.t x) j fun r => k r [] s
    | _ => none
  | .ixc x i => match ev s.t i with
    | .d (.v (.int _ j)) => ixStr (ev s.t x) j fun r => k r [] s
    | _ => none
  | .ext i x => match ev s.t x with
    | .tup c => bif Nat.blt i c.length then k (c.getD i .top) [] s else none
    | _ => none
  | .call f args => match ev s.t f with
    | .fn (.func g) a b => match env g with
      | some sp => sp (a ++ (evL s.t args ++ b)) s.h fun r m sc h => bif allOk A sc then k r m ⟨scrubTs s.t sc, h⟩ else none
      | none => none
    | _ => none
  | .len x => match lenS s.h (ev s.t x) with
    | some n => k (vInt n) [] s
    | none => none
  | .lens x => match ev s.t x with
    | .d (.v (.string y)) => k (vInt y.size) [] s
    | _ => none
  | .lenm x => match ev s.t x with
    | .d (.v (.map none)) => k (vInt 0) [] s
    | .mp l => match hget s.h l with
      | .mapi _ es => k (vInt es.length) [] s
      | .mapb es => k (vInt es.length) [] s
      | .maps es => k (vInt es.length) [] s
      | _ => none
    | _ => none
  | .lenc n => k (vInt n) [] s
  | .app e sz by_ kd a b => appS A s e sz by_ kd (ev s.t a) (ev s.t b) k
  | .mn a b => match ev s.t a, ev s.t b with
    | .d (.v (.int i x)), .d (.v (.int j y)) => bif kEq i j then k (.d (.v (.int i (if y < x then y else x)))) [] s else none
    | _, _ => none
  | .mx a b => match ev s.t a, ev s.t b with
    | .d (.v (.int i x)), .d (.v (.int j y)) => bif kEq i j then k (.d (.v (.int i (if y > x then y else x)))) [] s else none
    | _, _ => none
  | .lku kk z ok m q => match ev s.t m, keyOf kk (ev s.t q) with
    | .d (.v (.map none)), some _ => k (two ok z false) [] s
    | .mp l, some q => match hget s.h l with
      | .mapi kd es => match z with
        | .d (.v (.int kd' 0)) => bif kEq kd kd' then br (keysOk q es) (k (two ok (.d (.v (.int kd ((getM q es).getD 0)))) (getM q es).isSome) [] s) none else none
        | _ => none
      | .mapb es => match z with
        | .d (.v (.bool false)) => br (keysOk q es) (k (two ok (.d (.v (.bool ((getM q es).getD false)))) (getM q es).isSome) [] s) none
        | _ => none
      | .maps es => findS q (k (two ok z false) [] s) (fun x => k (two ok x true) [] s) es
      | _ => none
    | .md ks xs, some q => findS q (k (two ok z false) [] s) (fun x => k (two ok x true) [] s) (ks.zip xs)
    | _, _ => none
  | .upd kk m q x => match ev s.t m, keyOf kk (ev s.t q), ev s.t x with
    | .mp l, some q, x => match hget s.h l, x with
      | .mapi kd es, .d (.v (.int kd' y)) => bif kEq kd kd' then br (keysOk q es) (k .top [l] ⟨s.t, s.h.set l (.mapi kd (setM q y es))⟩) none else none
      | .mapb es, .d (.v (.bool y)) => br (keysOk q es) (k .top [l] ⟨s.t, s.h.set l (.mapb (setM q y es))⟩) none
      | .maps es, x => bif keysOk q es then k .top [l] ⟨s.t, s.h.set l (.maps (setM q x es))⟩ else none
      | _, _ => none
    | _, _, _ => none
  | .del kk m q => match ev s.t m, keyOf kk (ev s.t q) with
    | .mp l, some q => match hget s.h l with
      | .mapi kd es => br (keysOk q es) (k .top [l] ⟨s.t, s.h.set l (.mapi kd (delM q es))⟩) none
      | .mapb es => br (keysOk q es) (k .top [l] ⟨s.t, s.h.set l (.mapb (delM q es))⟩) none
      | _ => none
    | _, _ => none
  | .bad => none

/-- What an operation does to memory: 0 nothing, 1 it reads, 2 it may write or make, 3 it may forget. -/
def cls : CO → Nat
  | .mv _ | .pick .. | .bld .. | .nilc _ | .bin .. | .eq .. | .un .. | .conv .. | .convs _ | .mkf .. | .fa .. | .fld .. | .ixa .. | .ixg .. | .ixc .. | .ext .. | .lenc _ | .lens _ | .mn .. | .mx .. | .bad => 0
  | .ld .. | .ixs .. | .len _ | .lenm _ | .lku .. => 1
  | .slc .. => 0
  | .app .. | .call .. => 3
  | _ => 2

def readsOf (t : List (Nat × SV)) : CO → List Nat
  | .ld _ _ (.t x) | .ixs _ (.t x) _ | .len (.t x) | .lenm (.t x) | .lku _ _ _ (.t x) _ => locsOf (lk t x)
  | _ => []

/-! ### regions -/
def putD (dst : Option Nat) (x : SV) (t : List (Nat × SV)) : List (Nat × SV) :=
  match dst with
  | none => t
  | some d => match x with
    | .top => dropT t d
    | x => stt t d x

/-- The temporaries that an operation reads. -/
def tOf : CA → List Nat
  | .t n => [n]
  | .c _ => []
def tOfL : List CA → List Nat
  | [] => []
  | .t n :: r => n :: tOfL r
  | .c _ :: r => tOfL r
def tOfO : Option CA → List Nat
  | some (.t n) => [n]
  | _ => []
def tOfP : List (Nat × Nat × CA) → List Nat
  | [] => []
  | (_, _, .t n) :: r => n :: tOfP r
  | _ :: r => tOfP r

def opsOf : CO → List Nat
  | .mv x | .box _ _ x | .ld _ _ x | .nilc x | .un _ x | .conv _ x | .convs x | .mks _ _ _ _ _ x | .fa _ x | .fld _ _ _ x | .ext _ x | .len x | .lens x | .lenm x => tOf x
  | .pick c a b => tOfL [c, a, b]
  | .bld _ ps => tOfP ps
  | .bsl _ _ _ _ ps => tOfP ps
  | .st _ p x => tOfL [p, x]
  | .bin _ x y | .eq _ _ x y | .ixa _ _ x y | .ixs _ x y | .ixg _ _ _ x y | .ixc x y | .app _ _ _ _ x y | .mn x y | .mx x y | .lku _ _ _ x y | .del _ x y => tOfL [x, y]
  | .upd _ m q x => tOfL [m, q, x]
  | .mkf _ f c => tOfL f ++ tOfL c
  | .slc _ x a b c => tOf x ++ (tOfO a ++ (tOfO b ++ tOfO c))
  | .call f args => tOf f ++ tOfL args
  | .newc .. | .mki .. | .mkb | .mkm | .lenc _ | .bad => []

abbrev Log := List (Nat × Nat × List Nat)

def disj (a b : List Nat) : Bool := a.all fun x => !(nmem x b)

/-- An operation (class c: 1 it reads, 2 it writes; locs ls; all ahead of it: anc) beside those logged: does its turn not matter? -/
def compat (anc c : Nat) (ls : List Nat) : Log → Bool
  | [] => true
  | (i, c', ls') :: r => (Nat.testBit anc i || (!(Nat.beq c 2 && (Nat.beq c' 2 || Nat.beq c' 4)) && (!(Nat.beq c 2 || (Nat.beq c' 2 || Nat.beq c' 4)) || disj ls ls'))) && compat anc c ls r

/-- May a new block be laid ahead of what is logged? -/
def early (anc : Nat) : Log → Bool
  | [] => true
  | (i, c', _) :: r => (Nat.testBit anc i || (Nat.beq c' 1 || Nat.beq c' 2)) && early anc r

/-- The writes that it passes. -/
def passed (anc : Nat) : Log → Nat
  | [] => 0
  | (i, c', _) :: r => bif Nat.beq c' 2 && !(Nat.testBit anc i) then 2 ^ i ||| passed anc r else passed anc r

/-- What waits for a block laid ahead waits for all that this passed. -/
def folw (anc : Nat) : Log → Bool
  | [] => true
  | (i, c', ls) :: r => (!(Nat.beq c' 4 && Nat.testBit anc i) || match ls with
      | [ps] => Nat.beq (anc &&& ps) ps
      | _ => false) && folw anc r

def allV : List SV → Bool
  | [] => true
  | .d (.v _) :: r => allV r
  | _ :: _ => false

def topAt (t : List (Nat × SV)) : Option Nat → Bool
  | some d => match lk t d with
    | .top => true
    | _ => false
  | none => false

/-- The heap but for these locs is hidden. -/
def maskH (ls : List Nat) : Nat → SH → SH
  | _, [] => []
  | i, o :: r => (bif nmem i ls then o else .dead) :: maskH ls (i + 1) r

def sreg : List CR → SS → (SS → Option Ω) → Option Ω
  | [], s, k => k s
  | o :: r, s, k =>
    let run := fun (s : SS) => sop env A o.op s fun v _ s' => sreg r ⟨putD o.dst v s'.t, s'.h⟩ k
    let skip := fun (s : SS) => sreg r ⟨putD o.dst (.tup []) s.t, s.h⟩ k
    match o.guard with
    | none => run s
    | some (d, want) => match lk s.t d with
      | .d (.v (.bool b)) =>
        br b (bif want then run ⟨stt s.t d (.d (.v (.bool true))), s.h⟩ else skip ⟨stt s.t d (.d (.v (.bool true))), s.h⟩)
          (bif want then skip ⟨stt s.t d (.d (.v (.bool false))), s.h⟩ else run ⟨stt s.t d (.d (.v (.bool false))), s.h⟩)
      | .tup [] => skip s
      | _ => none

/-- One operation of a drawn region: n: with what follows it. -/
def dop (o : CR) (i : Nat) (lg : Log) (req : Nat) (s : SS) (n : SV → Log → Nat → SS → Option Ω) : Option Ω :=
  match cls o.op with
  | 0 => sop env A o.op ⟨keepT (opsOf o.op) s.t, []⟩ fun v _ _ => n v lg req s
  | 1 => bif compat o.anc 1 (readsOf s.t o.op) lg then
      sop env A o.op ⟨keepT (opsOf o.op) s.t, maskH (readsOf s.t o.op) 0 s.h⟩ fun v _ _ => n v ((i, 1, readsOf s.t o.op) :: lg) req s
    else none
  | 2 => sop env A o.op ⟨keepT (opsOf o.op) s.t, s.h⟩ fun v m s' => bif compat o.anc 2 m lg then n v ((i, 2, m) :: lg) req ⟨s.t, s'.h⟩ else match o.op with
    | .newc t z => bif early o.anc lg && (allV z && topAt s.t o.dst) then n (.ptr s.h.length 0) ((i, 4, [passed o.anc lg]) :: lg) req ⟨s.t, s.h ++ [.cells t z]⟩ else none
    | _ => none
  | _ => match o.op with
    | .call f args => match ev (keepT (opsOf o.op) s.t) f with
      | .fn (.func g) a b => match env g with
        | some sp => bif nmem g A.pu then (bif mentT (fun _ => true) (keepT (opsOf o.op) s.t) then none else
            sp (a ++ (evL (keepT (opsOf o.op) s.t) args ++ b)) [] fun v m sc h => match m, sc, h with
              | [], [], [] => bif ment (fun _ => true) v then none else n v lg req s
              | _, _, _ => none) else sp (a ++ (evL (keepT (opsOf o.op) s.t) args ++ b)) s.h fun v m sc h => match sc with
          | [] => bif compat o.anc 2 m lg then n v ((i, 2, m) :: lg) req ⟨s.t, h⟩ else none
          | sc => bif Nat.beq (o.anc + 1) (2 ^ i) && allOk A sc then n v lg (req ||| 2 ^ i) ⟨scrubTs s.t sc, h⟩ else none
        | none => none
      | _ => none
    | .app e sz by_ kd a b => bif Nat.beq (o.anc + 1) (2 ^ i) then sop env A (.app e sz by_ kd a b) s fun v _ s' => n v lg (req ||| 2 ^ i) s' else
        appE ⟨keepT (opsOf o.op) s.t, s.h⟩ e sz by_ kd (ev (keepT (opsOf o.op) s.t) a) (ev (keepT (opsOf o.op) s.t) b) fun v m s' => bif compat o.anc 2 m lg then n v ((i, 2, m) :: lg) req ⟨s.t, s'.h⟩ else none
    | _ => none

def sregD : List CR → Nat → Log → Nat → SS → (SS → Option Ω) → Option Ω
  | [], _, _, _, s, k => k s
  | o :: r, i, lg, req, s, k =>
    bif Nat.beq (o.anc &&& req) req && folw o.anc lg then
      (let run := fun (s : SS) => dop env A o i lg req s fun v lg req s' => sregD r (i + 1) lg req ⟨putD o.dst v s'.t, s'.h⟩ k
       let skip := fun (s : SS) => sregD r (i + 1) lg req ⟨putD o.dst (.tup []) s.t, s.h⟩ k
       match o.guard with
       | none => run s
       | some (d, want) => match lk s.t d with
         | .d (.v (.bool b)) =>
           br b (bif want then run ⟨stt s.t d (.d (.v (.bool true))), s.h⟩ else skip ⟨stt s.t d (.d (.v (.bool true))), s.h⟩)
             (bif want then skip ⟨stt s.t d (.d (.v (.bool false))), s.h⟩ else run ⟨stt s.t d (.d (.v (.bool false))), s.h⟩)
         | .tup [] => skip s
         | _ => none)
    else none

/-! ### code -/
/-- A tested temporary: it is forgotten, unless it is looked at again. -/
def condT (A : Ann) (t : List (Nat × SV)) (n : Nat) (b : Bool) : List (Nat × SV) := bif nmem n A.kc then stt t n (.d (.v (.bool b))) else dropT t n

def Ann.at (A : Ann) (id : Nat) : List Nat := go A.live
 where go : List (Nat × List Nat) → List Nat
  | [] => A.keep
  | (k, l) :: r => bif Nat.beq k id then l else go r

def iter (lv : List Nat) (n0 : Nat) (f : SS → (SE → SS → Option Ω) → Option Ω) : Nat → SS → (SE → SS → Option Ω) → Option Ω
  | 0, _, _ => none
  | n + 1, s, k => f s fun e s' => match e with
    | .norm => iter lv n0 f n (gc lv n0 s') k
    | .exit id => k (.exit id) s'
    | .ret => k .ret s'

def big : Nat := 1000000000000

def sx : CC → Nat → SS → (SE → SS → Option Ω) → Option Ω
  | .skip, _, s, k => k .norm s
  | .reg draw ops, _, s, k => bif draw then sregD env A ops 0 [] 0 s fun s' => k .norm ⟨keepT A.keep s'.t, s'.h⟩ else sreg env A ops s fun s' => k .norm ⟨keepT A.keep s'.t, s'.h⟩
  | .seq a b, c, s, k => sx a c s fun e s' => match e with
    | .norm => sx b c s' k
    | .exit id => k (.exit id) s'
    | .ret => k .ret s'
  | .cond n a b, c, s, k => match lk s.t n with
    | .d (.v (.bool t)) => br t (sx a c ⟨condT A s.t n true, s.h⟩ k) (sx b c ⟨condT A s.t n false, s.h⟩ k)
    | _ => none
  | .block id a, _, s, k => sx a id s fun e s' => match e with
    | .exit i => bif Nat.beq i id then k .norm s' else k (.exit i) s'
    | .norm => k .norm s'
    | .ret => k .ret s'
  | .loop a, c, s, k => iter (A.at c) s.h.length (sx a c) big (gc (A.at c) s.h.length s) k
  | .exit id, _, s, k => k (.exit id) s
  | .ret, _, s, k => k .ret s
  | .bad, _, _, _ => none

/-! ### functions -/

/-- A compiled function: its results (a temporary, or a cell's address with the size and whether it is an aggregate) and its code. -/
structure CF where
  np : Nat
  res : List (Nat × Option (Nat × Bool))
  code : CC

def rets (s : SS) : List (Nat × Option (Nat × Bool)) → Option (List SV)
  | [] => some []
  | (t, none) :: r => match rets s r with
    | some l => some (lk s.t t :: l)
    | none => none
  | (t, some (n, a)) :: r => match ld s.h (lk s.t t) n, rets s r with
    | some c, some l => bif a then some (.agg c :: l) else (match c with | [x] => some (x :: l) | _ => none)
    | _, _ => none

def number : List SV → Nat → List (Nat × SV)
  | [], _ => []
  | x :: r, i => match x with
    | .top => number r (i + 1)
    | x => (i, x) :: number r (i + 1)

def tup1 : List SV → SV
  | [x] => x
  | l => .tup l

def sxFn (f : CF) (args : List SV) (h : SH) (k : SV → SH → Option Ω) : Option Ω :=
  bif Nat.beq args.length f.np then
    sx env A f.code 0 ⟨number args 0, h⟩ fun e s =>
      match e with
      | .exit _ => none
      | _ => match rets s f.res with
        | some l => k (tup1 l) s.h
        | none => none
  else none

end

/-! ### code whose loops are left open: it says what a loop answers -/
abbrev Itr (Ω : Type) := List Nat → Nat → (SS → (SE → SS → Option Ω) → Option Ω) → SS → (SE → SS → Option Ω) → Option Ω
section
variable {Ω : Type} (it : Itr Ω) (env : Env Ω) (A : Ann)

def sxI : CC → Nat → SS → (SE → SS → Option Ω) → Option Ω
  | .skip, _, s, k => k .norm s
  | .reg draw ops, _, s, k => bif draw then sregD env A ops 0 [] 0 s fun s' => k .norm ⟨keepT A.keep s'.t, s'.h⟩ else sreg env A ops s fun s' => k .norm ⟨keepT A.keep s'.t, s'.h⟩
  | .seq a b, c, s, k => sxI a c s fun e s' => match e with
    | .norm => sxI b c s' k
    | .exit id => k (.exit id) s'
    | .ret => k .ret s'
  | .cond n a b, c, s, k => match lk s.t n with
    | .d (.v (.bool t)) => br t (sxI a c ⟨condT A s.t n true, s.h⟩ k) (sxI b c ⟨condT A s.t n false, s.h⟩ k)
    | _ => none
  | .block id a, _, s, k => sxI a id s fun e s' => match e with
    | .exit i => bif Nat.beq i id then k .norm s' else k (.exit i) s'
    | .norm => k .norm s'
    | .ret => k .ret s'
  | .loop a, c, s, k => it (A.at c) s.h.length (sxI a c) (gc (A.at c) s.h.length s) k
  | .exit id, _, s, k => k (.exit id) s
  | .ret, _, s, k => k .ret s
  | .bad, _, _, _ => none

def kseq (b : CC) (c : Nat) (k : SE → SS → Option Ω) : SE → SS → Option Ω := fun e s' => match e with
  | .norm => sxI it env A b c s' k
  | .exit id => k (.exit id) s'
  | .ret => k .ret s'
def kblk (id : Nat) (k : SE → SS → Option Ω) : SE → SS → Option Ω := fun e s' => match e with
  | .exit i => bif Nat.beq i id then k .norm s' else k (.exit i) s'
  | .norm => k .norm s'
  | .ret => k .ret s'
/-- The end of a round: I goes on with the next one. -/
def kitV (lv : List Nat) (n0 : Nat) (I : SS → Option Ω) (k : SE → SS → Option Ω) : SE → SS → Option Ω := fun e s' => match e with
  | .norm => I (gc lv n0 s')
  | .exit id => k (.exit id) s'
  | .ret => k .ret s'
def kfn (f : CF) (k : SV → SH → Option Ω) : SE → SS → Option Ω := fun e s => match e with
  | .exit _ => none
  | _ => match rets s f.res with
    | some l => k (tup1 l) s.h
    | none => none
def sxFnI (f : CF) (args : List SV) (h : SH) (k : SV → SH → Option Ω) : Option Ω :=
  bif Nat.beq args.length f.np then sxI it env A f.code 0 ⟨number args 0, h⟩ (kfn f k) else none
end

/-! ### compiling -/
section
variable (P : Program)

def uT (t : TypeId) : TypeDesc := (P.underlying t).getD .invalid
def szT (t : TypeId) : Nat := match P.info? t with | some i => i.size | none => 0
def byT (t : TypeId) : Nat := match P.info? t with | some i => i.bytes | none => 0
def aggT (t : TypeId) : Bool := match uT P t with | .struct _ | .array _ _ => true | _ => false
def ldT (t : TypeId) : Nat := bif aggT P t then szT P t else 1
def kindT (t : TypeId) : Option IntKind := match uT P t with | .int k => some k | _ => none

def flatV : List Value → Bool
  | [] => true
  | .agg _ :: _ | .tuple _ :: _ => false
  | _ :: r => flatV r

def cst : Value → SV
  | .func g ⟨[]⟩ ⟨[]⟩ => .fn g [] []
  | .func _ _ _ => .top
  | .agg c => bif flatV c.toList then .agg (c.toList.map fun x => .d (.v x)) else .top
  | .tuple _ => .top
  | x => .d (.v x)

def zT (t : TypeId) : Option SV := match P.info? t with
  | some i => match i.zero with
    | some z => some (cst z)
    | none => none
  | none => none

def zcT (t : TypeId) : Option (List SV) := match zT P t with
  | some z => match cellsOf z with
    | some c => bif Nat.beq c.length (szT P t) then some c else none
    | none => none
  | none => none

/-- The kinds of the int slices among a type's cells. -/
def leafK : Nat → TypeId → List (Option IntKind)
  | 0, _ => []
  | n + 1, t => match uT P t with
    | .struct fs => (fs.toList.map fun f => leafK n f.type).flatten
    | .array m e => (List.replicate m (leafK n e)).flatten
    | .slice e => [kindT P e]
    | _ => [none]

/-- Zero cells where nil int slices are known as empty only. -/
def softL : List (Option IntKind) → List SV → List SV
  | some k :: ks, .d (.v (.slice none 0 0)) :: r => .d (.ints k []) :: softL ks r
  | _ :: ks, x :: r => x :: softL ks r
  | [], r => r
  | _, [] => []

def coA : Operand → Option CA
  | .tmp n => some (.t n)
  | .const x => some (.c (cst x))
  | .func f => some (.c (.fn (.func f) [] []))
  | .global _ => none

def coL : List Operand → Option (List CA)
  | [] => some []
  | x :: r => match coA x, coL r with
    | some y, some l => some (y :: l)
    | _, _ => none

def coO : Option Operand → Option (Option CA)
  | none => some none
  | some x => (coA x).map some

def coP (pl : Nat → Option (Nat × Nat)) : List (Nat × Operand) → Option (List (Nat × Nat × CA))
  | [] => some []
  | (i, x) :: r => match pl i, coA x, coP pl r with
    | some (o, n), some y, some l => some ((o, n, y) :: l)
    | _, _, _ => none

/-- How values of a type are compared. -/
def eqFs (f : TypeId → Option EqT) : List Field → Option EqT
  | [] => some .nil
  | x :: r => bif x.name == "_" then eqFs f r else match f x.type, eqFs f r with
    | some e, some l => some (.cons e x.offset (szT P x.type) (aggT P x.type) l)
    | _, _ => none

def eqT : Nat → TypeId → Option EqT
  | 0, _ => none
  | d + 1, t => match uT P t with
    | .bool => some .bool
    | .int _ => some .int
    | .string => some .str
    | .pointer _ => some .ptr
    | .slice _ => some .slc
    | .func _ _ _ => some .fnc
    | .map _ _ => some .mp
    | .struct fs => bif P.stoodInHeld t then none else eqFs P (eqT d) fs.toList
    | _ => none
 termination_by structural d => d

def fldT (t : TypeId) (f : Nat) : Option Field := match uT P t with
  | .struct fs => fs.toList[f]?
  | _ => none

/-- The size of a slice's element; 0: a string. -/
def elT (t : TypeId) : Option Nat := match uT P t with
  | .slice e => bif Nat.beq (szT P e) 0 then none else some (szT P e)
  | .string => some 0
  | _ => none

def okT (t : TypeId) : Bool := match uT P t with | .invalid => false | _ => true
def intOk (e : TypeId) : Bool := match kindT P e with | some _ => Nat.beq (szT P e) 1 | none => true

/-- The kind of a map's keys. -/
def keyT (t : TypeId) : Option Nat := match uT P t with
  | .int _ => some 0
  | .string => some 1
  | .bool => some 2
  | .struct fs => match fs.toList with
    | [a, b] => (match uT P a.type, uT P b.type with
      | .int _, .int _ => bif Nat.beq a.offset 0 && (Nat.beq b.offset 1 && (!(a.name == "_") && (!(b.name == "_") && (Nat.beq (szT P a.type) 1 && (Nat.beq (szT P b.type) 1 && !(P.stoodInHeld t)))))) then some 3 else none
      | _, _ => none)
    | _ => none
  | _ => none

/-- The kind of keys, and the type of the values, of a map. -/
def mapT (t : TypeId) : Option (Nat × TypeId) := match uT P t with
  | .map k e => match keyT P k with
    | some kk => some (kk, e)
    | none => none
  | _ => none

def mkO (e : TypeId) : CO := match uT P e with
  | .int k => .mki k
  | .bool => .mkb
  | _ => .mkm

def coB (b : Builtin) (ats : List TypeId) (args : List CA) : Option CO :=
  match b, args, ats with
  | .len, [x], [t] => match uT P t with
    | .slice _ => some (.len x)
    | .string => some (.lens x)
    | .map _ _ => some (.lenm x)
    | .array n _ => some (.lenc n)
    | _ => none
  | .append, [a, b], [t, u] => match uT P t, uT P u with
    | .slice e, .slice e' => bif Nat.beq (szT P e) (szT P e') && (!(Nat.beq (szT P e) 0) && (intOk P e && (!(Nat.beq (byT P e) 0) && (zcT P e).isSome))) then some (.app e (szT P e) (byT P e) (kindT P e) a b) else none
    | _, _ => none
  | .delete, [m, q], [t, _] => match mapT P t with
    | some (kk, _) => some (.del kk m q)
    | none => none
  | .min, [a, b], _ => some (.mn a b)
  | .max, [a, b], _ => some (.mx a b)
  | _, _, _ => none


def infoAll : List Field → Bool
  | [] => true
  | f :: r => (P.info? f.type).isSome && infoAll r

def coOp1 (op : Op) : Option CO :=
  match op with
  | .move x | .assign x => (coA x).map .mv
  | .pick c a b => match coA c, coA a, coA b with
    | some c, some a, some b => some (.pick c a b)
    | _, _, _ => none
  | .alloc t => (zcT P t).map (.newc t)
  | .box t x => bif Nat.beq (szT P t) 0 then none else (coA x).map (.box t (szT P t))
  | .build t ps => match uT P t, zcT P t with
    | .struct fs, some z => bif infoAll P fs.toList then (coP (fun i => (fs.toList[i]?).map fun f => (f.offset, szT P f.type)) ps.toList).map (.bld z) else none
    | .array _ e, some z => bif (P.info? e).isSome then (coP (fun i => some (i * szT P e, szT P e)) ps.toList).map (.bld z) else none
    | _, _ => none
  | .buildSlice t n ps => match uT P t with
    | .slice e => match zcT P e with
      | some z => bif Nat.ble (n * szT P e) 65536 && !(Nat.beq (szT P e) 0) then (coP (fun i => some (i * szT P e, szT P e)) ps.toList).map (.bsl e (szT P e) n z) else none
      | none => none
    | _ => none
  | .load t a => bif okT P t then (coA a).map (.ld (ldT P t) (aggT P t)) else none
  | .store t a x => match coA a, coA x with
    | some a, some x => bif Nat.beq (szT P t) 0 then none else some (.st (szT P t) a x)
    | _, _ => none
  | .nilCheck x => (coA x).map .nilc
  | .binOp o t x y _ => match coA x, coA y with
    | some x, some y => match o with
      | .eql => bif P.eqGuardType P.depth t then none else (eqT P 20 t).map fun e => .eq e false x y
      | .neq => bif P.eqGuardType P.depth t then none else (eqT P 20 t).map fun e => .eq e true x y
      | o => some (.bin o x y)
    | _, _ => none
  | .unOp o _ x => (coA x).map (.un o)
  | .convert s d x => match uT P s, uT P d with
    | .int _, .int k => (coA x).map (.conv k)
    | .string, .string => (coA x).map .convs
    | _, _ => none
  | .makeFunc g f c => match coL f.toList, coL c.toList with
    | some f, some c => some (.mkf g f c)
    | _, _ => none
  | .makeSlice t (.tmp l) (.tmp c) => match uT P t with
    | .slice e => match zcT P e with
      | some z => bif Nat.beq l c && (!(Nat.beq (szT P e) 0) && (!(Nat.beq (byT P e) 0) && intOk P e)) then some (.mks e (szT P e) (byT P e) (kindT P e) (softL (leafK P 8 e) z) (.t l)) else none
      | none => none
    | _ => none
  | .slice t x lo hi mx => match elT P t, coA x, coO lo, coO hi, coO mx with
    | some z, some x, some lo, some hi, some mx => bif mx.isNone || hi.isSome then some (.slc z x lo hi mx) else none
    | _, _, _, _, _ => none
  | .fieldAddr t x f => match fldT P t f with
    | some fd => bif Nat.beq (szT P fd.type) 0 then none else (coA x).map (.fa fd.offset)
    | none => none
  | .field t x f => match fldT P t f with
    | some fd => bif okT P fd.type then (coA x).map (.fld fd.offset (szT P fd.type) (aggT P fd.type)) else none
    | none => none
  | .indexAddr t x i => match coA x, coA i with
    | some x, some i => match uT P t with
      | .array n e => bif Nat.beq (szT P e) 0 || Nat.ble n 1 then none else some (.ixa n (szT P e) x i)
      | .slice e => bif Nat.beq (szT P e) 0 then none else some (.ixs (szT P e) x i)
      | _ => none
    | _, _ => none
  | .index t x i => match coA x, coA i with
    | some x, some i => match uT P t with
      | .array n e => bif Nat.beq (szT P e) 0 || !(okT P e) then none else some (.ixg n (szT P e) (aggT P e) x i)
      | .string => some (.ixc x i)
      | _ => none
    | _, _ => none
  | .extract x i => (coA x).map (.ext i)
  | .makeMap t none => match mapT P t with
    | some (_, e) => some (mkO P e)
    | none => none
  | .mapUpdate t m q x | .insert t m q x => match mapT P t, coA m, coA q, coA x with
    | some (kk, _), some m, some q, some x => some (.upd kk m q x)
    | _, _, _, _ => none
  | .lookup t m q ok => match mapT P t, coA m, coA q with
    | some (kk, e), some m, some q => match zT P e with
      | some z => some (.lku kk z ok m q)
      | none => none
    | _, _, _ => none
  | .call c => match c.callee, coL c.args.toList with
    | .value f, some args => (coA f).map fun f => .call f args
    | .builtin b, some args => coB P b c.argTypes.toList args
    | _, _ => none
  | _ => none

/-- What is not known here stops the run. -/
def coOp (op : Op) : Option CO := some (match coOp1 P op with | some c => c | none => .bad)

/-- The operations ahead of each, as a mask of bits. -/
def ancOf (acc : List Nat) (o : Oper) : Nat := o.after.toList.foldl (fun s e => bif Region.binds .any e then s ||| (2 ^ e.on ||| acc.getD e.on 0) else s) 0

def dstOkT (nt : Nat) : Option Nat → Bool
  | none => true
  | some d => Nat.blt d nt

def coR (nt : Nat) (draw : Bool) (all : List Oper) : List Oper → List Nat → Option (List CR)
  | [], _ => some []
  | o :: r, acc =>
    bif dstOkT nt o.dst && (!draw || o.after.toList.all fun e => !(Region.binds .any e) || Nat.blt e.on acc.length) then
      (match coOp P o.op, coR nt draw all r (acc ++ [bif draw then ancOf acc o else 0]) with
      | some c, some l => match o.guard with
        | none => some (⟨o.dst, c, none, bif draw then ancOf acc o else 0⟩ :: l)
        | some (j, w) => match (all[j]?).bind (·.dst) with
          | some d => some (⟨o.dst, c, some (d, w), bif draw then ancOf acc o else 0⟩ :: l)
          | none => none
      | _, _ => none)
    else none

/-- The temporaries that an operation and its guard look at. -/
def looks (o : CR) : List Nat := match o.guard with
  | some (d, _) => d :: opsOf o.op
  | none => opsOf o.op

def notIn (d : Option Nat) (l : List Nat) : Bool := match d with
  | some d => !(nmem d l)
  | none => true

/-- Do two operations, neither waiting for the other, mind each other's temporaries not at all? -/
def apart (x y : CR) : Bool := notIn x.dst (looks y) && (notIn y.dst (looks x) && (match x.dst, y.dst with
  | some d, some e => !(Nat.beq d e)
  | _, _ => true))

/-- Each operation beside those ahead of it in the text (rev: these, the last first, i of them). -/
def apartTo (o : CR) : List CR → Nat → Bool
  | [], _ => true
  | x :: r, i => (Nat.testBit o.anc (i - 1) || apart x o) && apartTo o r (i - 1)

def apartAll : List CR → List CR → Nat → Bool
  | [], _, _ => true
  | o :: r, rev, i => apartTo o rev i && apartAll r (o :: rev) (i + 1)

def coC (nt : Nat) : Code → Option CC
  | .skip => some .skip
  | .region _ ops draw => match coR P nt draw ops.toList ops.toList [] with
    | some l => bif !draw || apartAll l [] 0 then some (.reg draw l) else none
    | none => none
  | .seq a b => match coC nt a, coC nt b with
    | some a, some b => some (.seq a b)
    | _, _ => none
  | .cond (.tmp n) a b => match coC nt a, coC nt b with
    | some a, some b => some (.cond n a b)
    | _, _ => none
  | .block id a => (coC nt a).map (.block id)
  | .loop a => (coC nt a).map .loop
  | .exit id => some (.exit id)
  | .ret => some .ret
  | _ => some .bad

def coRes : List ResultVar → List (Nat × Option (Nat × Bool))
  | [] => []
  | .tmp t :: r => (t, none) :: coRes r
  | .cell a t :: r => (a, some (ldT P t, aggT P t)) :: coRes r

def resOk : List ResultVar → Bool
  | [] => true
  | .tmp _ :: r => resOk r
  | .cell _ t :: r => okT P t && resOk r

def coF (f : Func) : Option CF := match f.body with
  | some c => match coC P f.ntmps c with
    | some c => bif Nat.ble (f.params.size + f.nfree) f.ntmps && resOk P f.results.toList then some ⟨f.params.size + f.nfree, coRes P f.results.toList, c⟩ else none
    | none => none
  | none => none
end
end Go.Sx
