/- GiveAlone: the rounds of the law's loops, for each shape of its heap. -/
import Derived.Test.YtibleafpbfbccaaY3
import Derived.Test.YtibleafpbfbccaaV31
import Derived.Test.YtibleafpbfbccaaQ34
import Derived.Test.YtibleafpbfbccaaY3
import Derived.Test.YtibleafpbfbccaaQ34
import Derived.Test.YtibleafpbfbccaaY3
import Derived.Test.YtibleafpbfbccaaV18
set_option linter.all false
set_option linter.unusedVariables false
set_option linter.unusedSimpArgs false
set_option linter.unnecessarySimpa false
namespace Go.Sx.Pr
open Go Go.Sx Go.Sx.Md Go.Proofs
set_option maxRecDepth 100000

abbrev HG (c : Cf) (ws : List Int) (m : Mm) : SH := [.cells 24 (encC c), .dead, .dead, .dead, .rowi 22 .u64 m.ws, .cells 61 (memC m.c m.s 4), .dead, .rowi 22 .u64 ws, .cells 66 (memD c ac0 7)]
/-- The rack's slice. -/
def nl15 : Bool → SV
  | true => .own 13
  | false => .d (.v (.slice none 0 0))
def rkN : Bool → Nat
  | true => 2
  | false => 0
/-- Where the list that is wanted lies after k pushes. -/
def lwG (rk : Bool) : Nat → Nat
  | 0 => 10
  | k + 1 => 13 + rkN rk + 2 * k
/-- How long the heap is. -/
def lnG (rk : Bool) : Nat → Nat
  | 0 => 12 + rkN rk
  | k + 1 => 14 + rkN rk + 2 * k
def deads : Nat → SH
  | 0 => []
  | n + 1 => .dead :: deads n
def rkH (R : List Int) : Bool → SH
  | true => [.dead, .rowi 3 .i64 R]
  | false => []
def wH0 (W L : List Int) : Nat → SO
  | 0 => .rowi 3 .i64 W
  | _ + 1 => .rowi 3 .i64 L
/-- What lies where the list began. -/
def wL0 (W L : List Int) : Nat → List Int
  | 0 => W
  | _ + 1 => L
def wH (W : List Int) : Nat → SH
  | 0 => []
  | k + 1 => deads (2 * k + 1) ++ [.rowi 3 .i64 W]
def HS (rk : Bool) (k : Nat) (c : Cf) (ws : List Int) (m : Mm) (ds R W L : List Int) : SH := HG c ws m ++ ([.dead, wH0 W L k, .rowi 3 .i64 ds] ++ (rkH R rk ++ wH W k))
def tsE (rk : Bool) (k : Nat) (hold : List Int) (i : Int) : List (Nat × SV) := [(2, .d (.ints .i64 hold)), (3, .ptr 0 0), (7, .ptr 5 0), (15, nl15 rk), (16, .own (lwG rk k)), (17, .own 11), (21, I i)]
def tsF (rk : Bool) (k : Nat) (hold : List Int) (way n : Int) : List (Nat × SV) := [(2, .d (.ints .i64 hold)), (3, .ptr 0 0), (7, .ptr 5 0), (15, nl15 rk), (16, .own (lwG rk k)), (17, .own 11), (23, .ptr (lnG rk k + 2) 0), (24, I way), (25, I n)]
def HF (rk : Bool) (k : Nat) (c : Cf) (ws : List Int) (m : Mm) (ds R W L : List Int) (x : Wk) : SH := HS rk k c ws m ds R W L ++ [.dead, .dead, .cells 43 (encW x)]
def HL (rk : Bool) (k : Nat) (c : Cf) (ws : List Int) (m : Mm) (ds R W L : List Int) (x : Wk) (wl hl : List Int) : SH := HF rk k c ws m ds R W L x ++ [.rowi 22 .u64 wl, .dead, .rowi 3 .i64 hl]
def tsG (j : Int) : List (Nat × SV) := [(3, .ptr 0 0), (7, .ptr 5 0), (17, .own 11), (31, I j)]
def rkL (R : List Int) : Bool → List Int
  | true => R
  | false => []
/-- Lists that are the same. -/
abbrev sameL (a b : List Int) : Bool := decide (a = b)

section
variable {Ω : Type} (it : Itr Ω) (IT : SS → Option Ω) (K : SV → SH → Option Ω) (c : Cf) (ws hold ds R W L : List Int) (m : Mm)
/-- The answer of pushing to the rack. -/
def rackG (rk : Bool) (k : Nat) (h i1 : Int) : Option Ω := match rk, k with
  | true, k => br (fits (R.length + 1) 8) (IT ⟨tsE true k hold i1, HS true k c ws m ds (R ++ [h]) W L⟩) none
  | false, 0 => IT ⟨tsE true 0 hold i1, HS true 0 c ws m ds [h] W L⟩
  | false, k + 1 => IT ⟨[(2, .d (.ints .i64 hold)), (3, .ptr 0 0), (7, .ptr 5 0), (15, .own (lnG false (k + 1) + 1)), (16, .own (lwG false (k + 1))), (17, .own 11), (21, I i1)], HS false (k + 1) c ws m ds R W L ++ [.dead, .rowi 3 .i64 [h]]⟩
def lenG (R : List Int) : Bool → Nat
  | true => R.length
  | false => 0
def rE (rk : Bool) (k : Nat) (i : Int) : Option Ω :=
  br (decide (i < (hold.length : Int))) (br (inB i hold.length) (br (c.c == 0) none (br (inB (w64' (Int.tdiv (hold.getD i.toNat 0) c.c)) ds.length)
    (br (ds.getD (w64' (Int.tdiv (hold.getD i.toNat 0) c.c)).toNat 0 == 0) (K (B true) (HS rk k c ws m ds R W L))
      (br (inB (w64' (Int.tdiv (hold.getD i.toNat 0) c.c)) ds.length) (br (decide (ds.getD (w64' (Int.tdiv (hold.getD i.toNat 0) c.c)).toNat 0 > 0))
        (br (inB (w64' (Int.tdiv (hold.getD i.toNat 0) c.c)) ds.length) (br (inB (w64' (Int.tdiv (hold.getD i.toNat 0) c.c)) ds.length)
          (IT ⟨tsE rk k hold (w64' (i + 1)), HS rk k c ws m (ds.set (w64' (Int.tdiv (hold.getD i.toNat 0) c.c)).toNat (w64' (ds.getD (w64' (Int.tdiv (hold.getD i.toNat 0) c.c)).toNat 0 - 1))) R W L⟩) none) none)
        (br (decide ((lenG R rk : Int) < c.f)) (br (inB i hold.length) (rackG IT c ws hold ds R W L m rk k (hold.getD i.toNat 0) (w64' (i + 1))) none)
          (br (inB i hold.length) (br (fits (1 + W.length) 8) (IT ⟨tsE rk (k + 1) hold (w64' (i + 1)), HS rk (k + 1) c ws m ds R (hold.getD i.toNat 0 :: W) (wL0 W L k)⟩) none) none))) none)) none)) none)
    (br (fits (0 + hold.length) 8) (br (shW { wk0 with hold := hold }) (it [2, 3, 7, 15, 16, 17, 23, 24, 25] (lnG rk k + 3) (sxI it E1008 A1008 L1008_10 11) ⟨tsF rk k hold (beginG { wk0 with hold := hold }).2 0, HF rk k c ws m ds R W L (beginG { wk0 with hold := hold }).1⟩ (Z1008_10 it K)) none) none)
def tailF (rk : Bool) (k : Nat) (x : Wk) : Option Ω :=
  br (fits x.hold.length 8) (br (!(x.hold.length : Int) == 0) (K (B false) (HL rk k c ws m ds R W L x m.ws x.hold)) (it [3, 7, 17, 31] (lnG rk k + 6) (sxI it E1008 A1008 L1008_6 13) ⟨tsG 0, HL rk k c ws m ds R W L x m.ws x.hold⟩ (Z1008_6 it K))) none
def xF (rk : Bool) (k : Nat) (x : Wk) (way : Int) : Option Ω :=
  br (fits m.ws.length 8) (br (u64B m.ws) (br (!way == 1) (K (B false) (HF rk k c ws m ds R W L x ++ [.rowi 22 .u64 m.ws]))
    (br (!(listV c m.ws false).isSome) (K (B false) (HF rk k c ws m ds R W L x ++ [.rowi 22 .u64 m.ws]))
      (br (decide (((listV c m.ws false).getD []).length < 1000000000)) (br (!sameL ((listV c m.ws false).getD []) W) (K (B false) (HF rk k c ws m ds R W L x ++ [.rowi 22 .u64 m.ws]))
        (br (decide (x.rack.length < 1000000000)) (br (!sameL x.rack (rkL R rk)) (K (B false) (HF rk k c ws m ds R W L x ++ [.rowi 22 .u64 m.ws]))
          (br (x.K == 0) (tailF it K c ws ds R W L m rk k x) (br (x.line == 31) (tailF it K c ws ds R W L m rk k x) (br (x.line == 32) (tailF it K c ws ds R W L m rk k x)
            (br (fits (1 + x.hold.length) 8) (K (B false) (HF rk k c ws m ds R W L x ++ [.rowi 22 .u64 m.ws, .dead, .dead, .rowi 3 .i64 (w64' (x.K - 1) :: x.hold)])) none))))) none)) none))) none) none
def rF (rk : Bool) (k : Nat) (x : Wk) (way n : Int) : Option Ω :=
  br (decide (n < IntKind.wrap .i64 (4 * (hold.length : Int)))) (br (way == 0) (br (okM m && okW x && (shW x && decide (x.rack.length < 999999)))
    (br (!(stepG m x).ok) (K (B false) (HF rk k c ws (stepG m x).m ds R W L x ++ [.cells 43 (encW (stepG m x).x)])) (IT ⟨tsF rk k hold (stepG m x).way (w64' (n + 1)), HF rk k c ws (stepG m x).m ds R W L (stepG m x).x⟩)) none) (xF it K c ws ds R W L m rk k x way)) (xF it K c ws ds R W L m rk k x way)
def bG (rk : Bool) (k : Nat) (x : Wk) (wl hl : List Int) (j : Int) : Option Ω :=
  br (inB j ds.length) (br (ds.getD j.toNat 0 == 0) (br (!Int.tmod (wordV c m.ws j).1 16 == 3) (K (B false) (HL rk k c ws m ds R W L x wl hl ++ [.rowi 22 .u64 m.ws])) (IT ⟨tsG (w64' (j + 1)), HL rk k c ws m ds R W L x wl hl⟩)) (IT ⟨tsG (w64' (j + 1)), HL rk k c ws m ds R W L x wl hl⟩)) none
def rG (rk : Bool) (k : Nat) (x : Wk) (wl hl : List Int) (j : Int) : Option Ω :=
  br (decide (j < c.b)) (br (fits m.ws.length 8) (br (inB j ds.length) (br (decide (ds.getD j.toNat 0 > 0)) (br (inB j ds.length)
    (br (!IntKind.wrap .i64 (Int.tmod (wU (Int.tdiv (wordV c m.ws j).1 16)) 4096) == IntKind.wrap .i64 (c.c - ds.getD j.toNat 0)) (K (B false) (HL rk k c ws m ds R W L x wl hl ++ [.rowi 22 .u64 m.ws])) (bG IT K c ws ds R W L m rk k x wl hl j)) none)
    (bG IT K c ws ds R W L m rk k x wl hl j)) none) none) (K (B true) (HL rk k c ws m ds R W L x wl hl))
end
abbrev NE (rk : Bool) (k : Nat) : Prop := ∀ (Ω : Type) (it : Itr Ω) (IT : SS → Option Ω) (K : SV → SH → Option Ω) (c : Cf) (ws hold ds R W L : List Int) (m : Mm) (i : Int),
  sxI it E1008 A1008 L1008_18 8 ⟨tsE rk k hold i, HS rk k c ws m ds R W L⟩ (kitV [2, 3, 7, 15, 16, 17, 21] 12 IT (Z1008_18 it K)) = rE it IT K c ws hold ds R W L m rk k i
abbrev NF (rk : Bool) (k : Nat) : Prop := ∀ (Ω : Type) (it : Itr Ω) (IT : SS → Option Ω) (K : SV → SH → Option Ω) (c : Cf) (ws hold ds R W L : List Int) (m : Mm) (x : Wk) (way n : Int),
  sxI it E1008 A1008 L1008_10 11 ⟨tsF rk k hold way n, HF rk k c ws m ds R W L x⟩ (kitV [2, 3, 7, 15, 16, 17, 23, 24, 25] (lnG rk k + 3) IT (Z1008_10 it K)) = rF it IT K c ws hold ds R W L m rk k x way n
abbrev NG (rk : Bool) (k : Nat) : Prop := ∀ (Ω : Type) (it : Itr Ω) (IT : SS → Option Ω) (K : SV → SH → Option Ω) (c : Cf) (ws ds R W L : List Int) (m : Mm) (x : Wk) (wl hl : List Int) (j : Int),
  sxI it E1008 A1008 L1008_6 13 ⟨tsG j, HL rk k c ws m ds R W L x wl hl⟩ (kitV [3, 7, 17, 31] (lnG rk k + 6) IT (Z1008_6 it K)) = rG IT K c ws ds R W L m rk k x wl hl j
end Go.Sx.Pr

/- GiveAlone: the normal forms of the first loops. -/
namespace Go.Sx.Pr
open Go Go.Sx Go.Sx.Md Go.Proofs
set_option maxRecDepth 100000
theorem pG {Ω : Type} (it : Itr Ω) (K : SV → SH → Option Ω) (c : Cf) (ws hold : List Int) :
    sxFnI it E1008 A1008 C1008 [.agg (encC c), .d (.ints .u64 ws), .d (.ints .i64 hold)] [] K =
    br (bothV (c) ws) (br (u64B ws) (br (!Option.isSome (listV (c) ws false)) (K (B true) (HG c ws ⟨c, ac0, ws⟩)) (br (decide ((↑ (List.length hold) : Int) > 20)) (K (B true) (HG c ws ⟨c, ac0, ws⟩)) (it [1, 2, 3, 7, 10, 12] 9 (sxI it E1008 A1008 L1008_32 0) (SS.mk [(1, .d (DV.ints .u64 ws)), (2, .d (DV.ints .i64 hold)), (3, .ptr 0 0), (7, .ptr 5 0), (10, .d (DV.ints .i64 (Option.getD (listV (c) ws false) []))), (12, I 0)] (HG c ws ⟨c, ac0, ws⟩)) (Z1008_32 it K)))) none) (br (u64B ws) (K (B true) [.cells 24 (encC c)]) none) := by kernel_rfl
theorem gA {Ω : Type} (it : Itr Ω) (IT : SS → Option Ω) (K : SV → SH → Option Ω) (c : Cf) (ws hold L : List Int) (m : Mm) (i : Int) :
    sxI it E1008 A1008 L1008_32 0 ⟨[(1, .d (.ints .u64 ws)), (2, .d (.ints .i64 hold)), (3, .ptr 0 0), (7, .ptr 5 0), (10, .d (.ints .i64 L)), (12, I i)], HG c ws m⟩ (kitV [1, 2, 3, 7, 10, 12] 9 IT (Z1008_32 it K)) =
    br (decide (i < (↑ (List.length hold) : Int))) (br (inB i (List.length hold)) (br (decide (List.getD hold (Int.toNat i) 0 < 0)) (K (B true) (HG c ws m)) (br (inB i (List.length hold)) (br (decide (List.getD hold (Int.toNat i) 0 ≥ IntKind.wrap .i64 (Cf.b c * Cf.c c))) (K (B true) (HG c ws m)) (it [1, 2, 3, 7, 10, 12, 13] 9 (sxI it E1008 A1008 L1008_28 2) (SS.mk [(1, .d (DV.ints .u64 ws)), (2, .d (DV.ints .i64 hold)), (3, .ptr 0 0), (7, .ptr 5 0), (10, .d (DV.ints .i64 L)), (12, I i), (13, I 0)] (HG c ws m)) (Z1008_28 it (kitV [1, 2, 3, 7, 10, 12] 9 IT (Z1008_32 it K))))) none)) none) (br (fits (0 + List.length L) 8) (br (decide (0 ≤ Cf.b c) && fits (Int.toNat (Cf.b c)) 8) (it [1, 2, 3, 7, 15, 16, 17, 18] 12 (sxI it E1008 A1008 L1008_20 6) (SS.mk [(1, .d (DV.ints .u64 ws)), (2, .d (DV.ints .i64 hold)), (3, .ptr 0 0), (7, .ptr 5 0), (15, .d (DV.v (Value.slice none 0 0))), (16, .own 10), (17, .own 11), (18, I 0)] (HG c ws m ++ [.dead, .rowi 3 .i64 ([] ++ L), .rowi 3 .i64 (List.replicate (Int.toNat (Cf.b c)) 0)])) (Z1008_20 it K)) none) none) := by kernel_rfl
theorem gB {Ω : Type} (it : Itr Ω) (IT : SS → Option Ω) (K : SE → SS → Option Ω) (c : Cf) (ws hold L : List Int) (m : Mm) (i k : Int) :
    sxI it E1008 A1008 L1008_28 2 ⟨[(1, .d (.ints .u64 ws)), (2, .d (.ints .i64 hold)), (3, .ptr 0 0), (7, .ptr 5 0), (10, .d (.ints .i64 L)), (12, I i), (13, I k)], HG c ws m⟩ (kitV [1, 2, 3, 7, 10, 12, 13] 9 IT (Z1008_28 it K)) =
    br (decide (k < (↑ (List.length L) : Int))) (br (inB k (List.length L)) (br (inB i (List.length hold)) (br (List.getD L (Int.toNat k) 0 == List.getD hold (Int.toNat i) 0) (K .ret (SS.mk [(1, .d (DV.ints .u64 ws)), (2, .d (DV.ints .i64 hold)), (3, .ptr 0 0), (6, B true), (7, .ptr 5 0), (10, .d (DV.ints .i64 L)), (12, I i), (13, I k)] (HG c ws m))) (IT (SS.mk [(1, .d (DV.ints .u64 ws)), (2, .d (DV.ints .i64 hold)), (3, .ptr 0 0), (7, .ptr 5 0), (10, .d (DV.ints .i64 L)), (12, I i), (13, I (w64' (k + 1)))] (HG c ws m)))) none) none) (it [1, 2, 3, 7, 10, 12, 14] 9 (sxI it E1008 A1008 L1008_26 4) (SS.mk [(1, .d (DV.ints .u64 ws)), (2, .d (DV.ints .i64 hold)), (3, .ptr 0 0), (7, .ptr 5 0), (10, .d (DV.ints .i64 L)), (12, I i), (14, I 0)] (HG c ws m)) (Z1008_26 it K)) := by kernel_rfl
theorem gC {Ω : Type} (it : Itr Ω) (IT : SS → Option Ω) (K : SE → SS → Option Ω) (c : Cf) (ws hold L : List Int) (m : Mm) (i k : Int) :
    sxI it E1008 A1008 L1008_26 4 ⟨[(1, .d (.ints .u64 ws)), (2, .d (.ints .i64 hold)), (3, .ptr 0 0), (7, .ptr 5 0), (10, .d (.ints .i64 L)), (12, I i), (14, I k)], HG c ws m⟩ (kitV [1, 2, 3, 7, 10, 12, 14] 9 IT (Z1008_26 it K)) =
    br (decide (k < i)) (br (inB k (List.length hold)) (br (inB i (List.length hold)) (br (List.getD hold (Int.toNat k) 0 == List.getD hold (Int.toNat i) 0) (K .ret (SS.mk [(1, .d (DV.ints .u64 ws)), (2, .d (DV.ints .i64 hold)), (3, .ptr 0 0), (6, B true), (7, .ptr 5 0), (10, .d (DV.ints .i64 L)), (12, I i), (14, I k)] (HG c ws m))) (IT (SS.mk [(1, .d (DV.ints .u64 ws)), (2, .d (DV.ints .i64 hold)), (3, .ptr 0 0), (7, .ptr 5 0), (10, .d (DV.ints .i64 L)), (12, I i), (14, I (w64' (k + 1)))] (HG c ws m)))) none) none) (K .norm (SS.mk [(1, .d (DV.ints .u64 ws)), (2, .d (DV.ints .i64 hold)), (3, .ptr 0 0), (7, .ptr 5 0), (10, .d (DV.ints .i64 L)), (12, I (w64' (i + 1))), (14, I k)] (HG c ws m))) := by kernel_rfl
theorem gD {Ω : Type} (it : Itr Ω) (IT : SS → Option Ω) (K : SV → SH → Option Ω) (c : Cf) (ws hold L ds : List Int) (m : Mm) (j : Int) :
    sxI it E1008 A1008 L1008_20 6 ⟨[(1, .d (.ints .u64 ws)), (2, .d (.ints .i64 hold)), (3, .ptr 0 0), (7, .ptr 5 0), (15, .d (.v (.slice none 0 0))), (16, .own 10), (17, .own 11), (18, I j)], HG c ws m ++ [.dead, .rowi 3 .i64 L, .rowi 3 .i64 ds]⟩ (kitV [1, 2, 3, 7, 15, 16, 17, 18] 12 IT (Z1008_20 it K)) =
    br (decide (j < Cf.b c)) (br (Int.tmod (Prod.fst (wordV (c) ws j)) 16 == 2) (br (inB j (List.length ds)) (br (inB j (List.length (List.set ds (Int.toNat j) (w64' (Cf.c c - IntKind.wrap .i64 (Int.tmod (wU (Int.tdiv (Prod.fst (wordV (c) ws j)) 16)) 4096)))))) (br (decide (List.getD (List.set ds (Int.toNat j) (w64' (Cf.c c - IntKind.wrap .i64 (Int.tmod (wU (Int.tdiv (Prod.fst (wordV (c) ws j)) 16)) 4096)))) (Int.toNat j) 0 ≤ 0)) (K (B true) (HG c ws m ++ [.dead, .rowi 3 .i64 L, .rowi 3 .i64 (List.set ds (Int.toNat j) (w64' (Cf.c c - IntKind.wrap .i64 (Int.tmod (wU (Int.tdiv (Prod.fst (wordV (c) ws j)) 16)) 4096))))])) (IT (SS.mk [(1, .d (DV.ints .u64 ws)), (2, .d (DV.ints .i64 hold)), (3, .ptr 0 0), (7, .ptr 5 0), (15, .d (DV.v (Value.slice none 0 0))), (16, .own 10), (17, .own 11), (18, I (w64' (j + 1)))] (HG c ws m ++ [.dead, .rowi 3 .i64 L, .rowi 3 .i64 (List.set ds (Int.toNat j) (w64' (Cf.c c - IntKind.wrap .i64 (Int.tmod (wU (Int.tdiv (Prod.fst (wordV (c) ws j)) 16)) 4096))))])))) none) none) (br (inB j (List.length ds)) (IT (SS.mk [(1, .d (DV.ints .u64 ws)), (2, .d (DV.ints .i64 hold)), (3, .ptr 0 0), (7, .ptr 5 0), (15, .d (DV.v (Value.slice none 0 0))), (16, .own 10), (17, .own 11), (18, I (w64' (j + 1)))] (HG c ws m ++ [.dead, .rowi 3 .i64 L, .rowi 3 .i64 (List.set ds (Int.toNat j) (-1))]))) none)) (it [2, 3, 7, 15, 16, 17, 21] 12 (sxI it E1008 A1008 L1008_18 8) (SS.mk [(2, .d (DV.ints .i64 hold)), (3, .ptr 0 0), (7, .ptr 5 0), (15, .d (DV.v (Value.slice none 0 0))), (16, .own 10), (17, .own 11), (21, I 0)] (HG c ws m ++ [.dead, .rowi 3 .i64 L, .rowi 3 .i64 ds])) (Z1008_18 it K)) := by kernel_rfl
theorem zA {Ω : Type} (it : Itr Ω) (K : SV → SH → Option Ω) (c : Cf) (ws hold L : List Int) (m : Mm) (i k : Int) : Z1008_32 it K .ret ⟨[(1, .d (.ints .u64 ws)), (2, .d (.ints .i64 hold)), (3, .ptr 0 0), (6, B true), (7, .ptr 5 0), (10, .d (.ints .i64 L)), (12, I i), (13, I k)], HG c ws m⟩ = K (B true) (HG c ws m) := by kernel_rfl
theorem zB {Ω : Type} (it : Itr Ω) (K : SV → SH → Option Ω) (c : Cf) (ws hold L : List Int) (m : Mm) (i k : Int) : Z1008_32 it K .ret ⟨[(1, .d (.ints .u64 ws)), (2, .d (.ints .i64 hold)), (3, .ptr 0 0), (6, B true), (7, .ptr 5 0), (10, .d (.ints .i64 L)), (12, I i), (14, I k)], HG c ws m⟩ = K (B true) (HG c ws m) := by kernel_rfl
theorem zC {Ω : Type} (IT : SS → Option Ω) (K : SE → SS → Option Ω) (c : Cf) (ws hold L : List Int) (m : Mm) (i k : Int) : kitV [1, 2, 3, 7, 10, 12] 9 IT K .norm ⟨[(1, .d (.ints .u64 ws)), (2, .d (.ints .i64 hold)), (3, .ptr 0 0), (7, .ptr 5 0), (10, .d (.ints .i64 L)), (12, I i), (14, I k)], HG c ws m⟩ = IT ⟨[(1, .d (.ints .u64 ws)), (2, .d (.ints .i64 hold)), (3, .ptr 0 0), (7, .ptr 5 0), (10, .d (.ints .i64 L)), (12, I i)], HG c ws m⟩ := by kernel_rfl
end Go.Sx.Pr

/- GiveAlone: a normal form of the rounds of the third loop for each shape (0 to 10). -/
namespace Go.Sx.Pr
open Go Go.Sx Go.Sx.Md Go.Proofs
set_option maxRecDepth 100000
theorem nE_f0 : NE false 0 := fun Ω it IT K c ws hold ds R W L m i => by kernel_rfl
theorem nE_f1 : NE false 1 := fun Ω it IT K c ws hold ds R W L m i => by kernel_rfl
theorem nE_f2 : NE false 2 := fun Ω it IT K c ws hold ds R W L m i => by kernel_rfl
theorem nE_f3 : NE false 3 := fun Ω it IT K c ws hold ds R W L m i => by kernel_rfl
theorem nE_f4 : NE false 4 := fun Ω it IT K c ws hold ds R W L m i => by kernel_rfl
theorem nE_f5 : NE false 5 := fun Ω it IT K c ws hold ds R W L m i => by kernel_rfl
theorem nE_f6 : NE false 6 := fun Ω it IT K c ws hold ds R W L m i => by kernel_rfl
theorem nE_f7 : NE false 7 := fun Ω it IT K c ws hold ds R W L m i => by kernel_rfl
theorem nE_f8 : NE false 8 := fun Ω it IT K c ws hold ds R W L m i => by kernel_rfl
theorem nE_f9 : NE false 9 := fun Ω it IT K c ws hold ds R W L m i => by kernel_rfl
theorem nE_f10 : NE false 10 := fun Ω it IT K c ws hold ds R W L m i => by kernel_rfl
theorem nE_t0 : NE true 0 := fun Ω it IT K c ws hold ds R W L m i => by kernel_rfl
theorem nE_t1 : NE true 1 := fun Ω it IT K c ws hold ds R W L m i => by kernel_rfl
theorem nE_t2 : NE true 2 := fun Ω it IT K c ws hold ds R W L m i => by kernel_rfl
theorem nE_t3 : NE true 3 := fun Ω it IT K c ws hold ds R W L m i => by kernel_rfl
theorem nE_t4 : NE true 4 := fun Ω it IT K c ws hold ds R W L m i => by kernel_rfl
theorem nE_t5 : NE true 5 := fun Ω it IT K c ws hold ds R W L m i => by kernel_rfl
theorem nE_t6 : NE true 6 := fun Ω it IT K c ws hold ds R W L m i => by kernel_rfl
theorem nE_t7 : NE true 7 := fun Ω it IT K c ws hold ds R W L m i => by kernel_rfl
theorem nE_t8 : NE true 8 := fun Ω it IT K c ws hold ds R W L m i => by kernel_rfl
theorem nE_t9 : NE true 9 := fun Ω it IT K c ws hold ds R W L m i => by kernel_rfl
theorem nE_t10 : NE true 10 := fun Ω it IT K c ws hold ds R W L m i => by kernel_rfl
end Go.Sx.Pr

/- GiveAlone: a normal form of the rounds of the third loop for each shape (11 to 20). -/
namespace Go.Sx.Pr
open Go Go.Sx Go.Sx.Md Go.Proofs
set_option maxRecDepth 100000
theorem nE_f11 : NE false 11 := fun Ω it IT K c ws hold ds R W L m i => by kernel_rfl
theorem nE_f12 : NE false 12 := fun Ω it IT K c ws hold ds R W L m i => by kernel_rfl
theorem nE_f13 : NE false 13 := fun Ω it IT K c ws hold ds R W L m i => by kernel_rfl
theorem nE_f14 : NE false 14 := fun Ω it IT K c ws hold ds R W L m i => by kernel_rfl
theorem nE_f15 : NE false 15 := fun Ω it IT K c ws hold ds R W L m i => by kernel_rfl
theorem nE_f16 : NE false 16 := fun Ω it IT K c ws hold ds R W L m i => by kernel_rfl
theorem nE_f17 : NE false 17 := fun Ω it IT K c ws hold ds R W L m i => by kernel_rfl
theorem nE_f18 : NE false 18 := fun Ω it IT K c ws hold ds R W L m i => by kernel_rfl
theorem nE_f19 : NE false 19 := fun Ω it IT K c ws hold ds R W L m i => by kernel_rfl
theorem nE_f20 : NE false 20 := fun Ω it IT K c ws hold ds R W L m i => by kernel_rfl
theorem nE_t11 : NE true 11 := fun Ω it IT K c ws hold ds R W L m i => by kernel_rfl
theorem nE_t12 : NE true 12 := fun Ω it IT K c ws hold ds R W L m i => by kernel_rfl
theorem nE_t13 : NE true 13 := fun Ω it IT K c ws hold ds R W L m i => by kernel_rfl
theorem nE_t14 : NE true 14 := fun Ω it IT K c ws hold ds R W L m i => by kernel_rfl
theorem nE_t15 : NE true 15 := fun Ω it IT K c ws hold ds R W L m i => by kernel_rfl
theorem nE_t16 : NE true 16 := fun Ω it IT K c ws hold ds R W L m i => by kernel_rfl
theorem nE_t17 : NE true 17 := fun Ω it IT K c ws hold ds R W L m i => by kernel_rfl
theorem nE_t18 : NE true 18 := fun Ω it IT K c ws hold ds R W L m i => by kernel_rfl
theorem nE_t19 : NE true 19 := fun Ω it IT K c ws hold ds R W L m i => by kernel_rfl
theorem nE_t20 : NE true 20 := fun Ω it IT K c ws hold ds R W L m i => by kernel_rfl
end Go.Sx.Pr

/- GiveAlone: a normal form of the steps for each shape (0 to 10). -/
namespace Go.Sx.Pr
open Go Go.Sx Go.Sx.Md Go.Proofs
set_option maxRecDepth 100000
theorem nF_f0 : NF false 0 := fun Ω it IT K c ws hold ds R W L m x way n => by kernel_rfl
theorem nF_f1 : NF false 1 := fun Ω it IT K c ws hold ds R W L m x way n => by kernel_rfl
theorem nF_f2 : NF false 2 := fun Ω it IT K c ws hold ds R W L m x way n => by kernel_rfl
theorem nF_f3 : NF false 3 := fun Ω it IT K c ws hold ds R W L m x way n => by kernel_rfl
theorem nF_f4 : NF false 4 := fun Ω it IT K c ws hold ds R W L m x way n => by kernel_rfl
theorem nF_f5 : NF false 5 := fun Ω it IT K c ws hold ds R W L m x way n => by kernel_rfl
theorem nF_f6 : NF false 6 := fun Ω it IT K c ws hold ds R W L m x way n => by kernel_rfl
theorem nF_f7 : NF false 7 := fun Ω it IT K c ws hold ds R W L m x way n => by kernel_rfl
theorem nF_f8 : NF false 8 := fun Ω it IT K c ws hold ds R W L m x way n => by kernel_rfl
theorem nF_f9 : NF false 9 := fun Ω it IT K c ws hold ds R W L m x way n => by kernel_rfl
theorem nF_f10 : NF false 10 := fun Ω it IT K c ws hold ds R W L m x way n => by kernel_rfl
theorem nF_t0 : NF true 0 := fun Ω it IT K c ws hold ds R W L m x way n => by kernel_rfl
theorem nF_t1 : NF true 1 := fun Ω it IT K c ws hold ds R W L m x way n => by kernel_rfl
theorem nF_t2 : NF true 2 := fun Ω it IT K c ws hold ds R W L m x way n => by kernel_rfl
theorem nF_t3 : NF true 3 := fun Ω it IT K c ws hold ds R W L m x way n => by kernel_rfl
theorem nF_t4 : NF true 4 := fun Ω it IT K c ws hold ds R W L m x way n => by kernel_rfl
theorem nF_t5 : NF true 5 := fun Ω it IT K c ws hold ds R W L m x way n => by kernel_rfl
theorem nF_t6 : NF true 6 := fun Ω it IT K c ws hold ds R W L m x way n => by kernel_rfl
theorem nF_t7 : NF true 7 := fun Ω it IT K c ws hold ds R W L m x way n => by kernel_rfl
theorem nF_t8 : NF true 8 := fun Ω it IT K c ws hold ds R W L m x way n => by kernel_rfl
theorem nF_t9 : NF true 9 := fun Ω it IT K c ws hold ds R W L m x way n => by kernel_rfl
theorem nF_t10 : NF true 10 := fun Ω it IT K c ws hold ds R W L m x way n => by kernel_rfl
end Go.Sx.Pr

/- GiveAlone: a normal form of the steps for each shape (11 to 20). -/
namespace Go.Sx.Pr
open Go Go.Sx Go.Sx.Md Go.Proofs
set_option maxRecDepth 100000
theorem nF_f11 : NF false 11 := fun Ω it IT K c ws hold ds R W L m x way n => by kernel_rfl
theorem nF_f12 : NF false 12 := fun Ω it IT K c ws hold ds R W L m x way n => by kernel_rfl
theorem nF_f13 : NF false 13 := fun Ω it IT K c ws hold ds R W L m x way n => by kernel_rfl
theorem nF_f14 : NF false 14 := fun Ω it IT K c ws hold ds R W L m x way n => by kernel_rfl
theorem nF_f15 : NF false 15 := fun Ω it IT K c ws hold ds R W L m x way n => by kernel_rfl
theorem nF_f16 : NF false 16 := fun Ω it IT K c ws hold ds R W L m x way n => by kernel_rfl
theorem nF_f17 : NF false 17 := fun Ω it IT K c ws hold ds R W L m x way n => by kernel_rfl
theorem nF_f18 : NF false 18 := fun Ω it IT K c ws hold ds R W L m x way n => by kernel_rfl
theorem nF_f19 : NF false 19 := fun Ω it IT K c ws hold ds R W L m x way n => by kernel_rfl
theorem nF_f20 : NF false 20 := fun Ω it IT K c ws hold ds R W L m x way n => by kernel_rfl
theorem nF_t11 : NF true 11 := fun Ω it IT K c ws hold ds R W L m x way n => by kernel_rfl
theorem nF_t12 : NF true 12 := fun Ω it IT K c ws hold ds R W L m x way n => by kernel_rfl
theorem nF_t13 : NF true 13 := fun Ω it IT K c ws hold ds R W L m x way n => by kernel_rfl
theorem nF_t14 : NF true 14 := fun Ω it IT K c ws hold ds R W L m x way n => by kernel_rfl
theorem nF_t15 : NF true 15 := fun Ω it IT K c ws hold ds R W L m x way n => by kernel_rfl
theorem nF_t16 : NF true 16 := fun Ω it IT K c ws hold ds R W L m x way n => by kernel_rfl
theorem nF_t17 : NF true 17 := fun Ω it IT K c ws hold ds R W L m x way n => by kernel_rfl
theorem nF_t18 : NF true 18 := fun Ω it IT K c ws hold ds R W L m x way n => by kernel_rfl
theorem nF_t19 : NF true 19 := fun Ω it IT K c ws hold ds R W L m x way n => by kernel_rfl
theorem nF_t20 : NF true 20 := fun Ω it IT K c ws hold ds R W L m x way n => by kernel_rfl
end Go.Sx.Pr

/- GiveAlone: a normal form of the last checks for each shape (0 to 10). -/
namespace Go.Sx.Pr
open Go Go.Sx Go.Sx.Md Go.Proofs
set_option maxRecDepth 100000
theorem nG_f0 : NG false 0 := fun Ω it IT K c ws ds R W L m x wl hl j => by kernel_rfl
theorem nG_f1 : NG false 1 := fun Ω it IT K c ws ds R W L m x wl hl j => by kernel_rfl
theorem nG_f2 : NG false 2 := fun Ω it IT K c ws ds R W L m x wl hl j => by kernel_rfl
theorem nG_f3 : NG false 3 := fun Ω it IT K c ws ds R W L m x wl hl j => by kernel_rfl
theorem nG_f4 : NG false 4 := fun Ω it IT K c ws ds R W L m x wl hl j => by kernel_rfl
theorem nG_f5 : NG false 5 := fun Ω it IT K c ws ds R W L m x wl hl j => by kernel_rfl
theorem nG_f6 : NG false 6 := fun Ω it IT K c ws ds R W L m x wl hl j => by kernel_rfl
theorem nG_f7 : NG false 7 := fun Ω it IT K c ws ds R W L m x wl hl j => by kernel_rfl
theorem nG_f8 : NG false 8 := fun Ω it IT K c ws ds R W L m x wl hl j => by kernel_rfl
theorem nG_f9 : NG false 9 := fun Ω it IT K c ws ds R W L m x wl hl j => by kernel_rfl
theorem nG_f10 : NG false 10 := fun Ω it IT K c ws ds R W L m x wl hl j => by kernel_rfl
theorem nG_t0 : NG true 0 := fun Ω it IT K c ws ds R W L m x wl hl j => by kernel_rfl
theorem nG_t1 : NG true 1 := fun Ω it IT K c ws ds R W L m x wl hl j => by kernel_rfl
theorem nG_t2 : NG true 2 := fun Ω it IT K c ws ds R W L m x wl hl j => by kernel_rfl
theorem nG_t3 : NG true 3 := fun Ω it IT K c ws ds R W L m x wl hl j => by kernel_rfl
theorem nG_t4 : NG true 4 := fun Ω it IT K c ws ds R W L m x wl hl j => by kernel_rfl
theorem nG_t5 : NG true 5 := fun Ω it IT K c ws ds R W L m x wl hl j => by kernel_rfl
theorem nG_t6 : NG true 6 := fun Ω it IT K c ws ds R W L m x wl hl j => by kernel_rfl
theorem nG_t7 : NG true 7 := fun Ω it IT K c ws ds R W L m x wl hl j => by kernel_rfl
theorem nG_t8 : NG true 8 := fun Ω it IT K c ws ds R W L m x wl hl j => by kernel_rfl
theorem nG_t9 : NG true 9 := fun Ω it IT K c ws ds R W L m x wl hl j => by kernel_rfl
theorem nG_t10 : NG true 10 := fun Ω it IT K c ws ds R W L m x wl hl j => by kernel_rfl
end Go.Sx.Pr

/- GiveAlone: a normal form of the last checks for each shape (11 to 20). -/
namespace Go.Sx.Pr
open Go Go.Sx Go.Sx.Md Go.Proofs
set_option maxRecDepth 100000
theorem nG_f11 : NG false 11 := fun Ω it IT K c ws ds R W L m x wl hl j => by kernel_rfl
theorem nG_f12 : NG false 12 := fun Ω it IT K c ws ds R W L m x wl hl j => by kernel_rfl
theorem nG_f13 : NG false 13 := fun Ω it IT K c ws ds R W L m x wl hl j => by kernel_rfl
theorem nG_f14 : NG false 14 := fun Ω it IT K c ws ds R W L m x wl hl j => by kernel_rfl
theorem nG_f15 : NG false 15 := fun Ω it IT K c ws ds R W L m x wl hl j => by kernel_rfl
theorem nG_f16 : NG false 16 := fun Ω it IT K c ws ds R W L m x wl hl j => by kernel_rfl
theorem nG_f17 : NG false 17 := fun Ω it IT K c ws ds R W L m x wl hl j => by kernel_rfl
theorem nG_f18 : NG false 18 := fun Ω it IT K c ws ds R W L m x wl hl j => by kernel_rfl
theorem nG_f19 : NG false 19 := fun Ω it IT K c ws ds R W L m x wl hl j => by kernel_rfl
theorem nG_f20 : NG false 20 := fun Ω it IT K c ws ds R W L m x wl hl j => by kernel_rfl
theorem nG_t11 : NG true 11 := fun Ω it IT K c ws ds R W L m x wl hl j => by kernel_rfl
theorem nG_t12 : NG true 12 := fun Ω it IT K c ws ds R W L m x wl hl j => by kernel_rfl
theorem nG_t13 : NG true 13 := fun Ω it IT K c ws ds R W L m x wl hl j => by kernel_rfl
theorem nG_t14 : NG true 14 := fun Ω it IT K c ws ds R W L m x wl hl j => by kernel_rfl
theorem nG_t15 : NG true 15 := fun Ω it IT K c ws ds R W L m x wl hl j => by kernel_rfl
theorem nG_t16 : NG true 16 := fun Ω it IT K c ws ds R W L m x wl hl j => by kernel_rfl
theorem nG_t17 : NG true 17 := fun Ω it IT K c ws ds R W L m x wl hl j => by kernel_rfl
theorem nG_t18 : NG true 18 := fun Ω it IT K c ws ds R W L m x wl hl j => by kernel_rfl
theorem nG_t19 : NG true 19 := fun Ω it IT K c ws ds R W L m x wl hl j => by kernel_rfl
theorem nG_t20 : NG true 20 := fun Ω it IT K c ws ds R W L m x wl hl j => by kernel_rfl
end Go.Sx.Pr

/- EntryChanges: the steps of an entry's life without interference, in the pure model. -/
namespace Go.Sx.Pr
open Go Go.Sx Go.Sx.Md Go.Proofs
set_option maxRecDepth 100000

section
variable {m : Mm} {x : Wk} {c : Cf} {t : Int}
/-- A memory of this config, with words of the right count. -/
structure MC (c : Cf) (m : Mm) : Prop where
  ok : okM m = true
  hc : m.c = c
  sz : (m.ws.length : Int) = szC c
theorem MC.chk (h : MC c m) : chkC c = 0 := by
  have := h.ok
  simp only [okM, Bool.and_eq_true, beq_iff_eq] at this
  rw [← h.hc]; exact this.1
theorem MC.at (h : MC c m) (hg : goodV c t = true) : Mm.ok m (adr c 3 (tE t)) = true := by
  obtain ⟨g1, g2, _, _⟩ := goodV_at hg
  exact inBE h.chk h.sz g1 g2
theorem MC.load (h : MC c m) (a : Int) : MC c (mLoad m a) := ⟨h.ok, h.hc, h.sz⟩
theorem MC.live (h : MC c m) (hg : goodV c t = true) : liveE c m.ws t = bif liveV (mLoadV m (adr c 3 (tE t))) (tG t) then (mLoadV m (adr c 3 (tE t)) / 16 % 65536 - 1, true) else (-1, false) := by
  have e : mLoadV m (adr c 3 (tE t)) = m.ws.getD (adr c 3 (tE t)).toNat 0 := by unfold mLoadV; rw [h.at hg, cond_true]; rfl
  rw [liveE_at h.chk h.sz hg, e]
end
end Go.Sx.Pr

/- SlabClaims: what a pick keeps. Plain Lean. -/
namespace Go.Sx.Pr
open Go Go.Sx Go.Sx.Md Go.Proofs
set_option maxRecDepth 100000

def gI (l : List Int) (j : Int) : Int := l.getD j.toNat 0
/-- A slab that nobody owns. -/
def restV (t : Int) : Int := if t = 0 then 0 else pSlab 3 0 t
def OJ (c : Cf) (m : Mm) (hs lf : List Int) (k : Nat) (x : Wk) : Prop :=
  0 ≤ x.slab ∧ x.slab < c.b ∧ gI hs x.slab = (k : Int) + 1 ∧
    ((x.line = 36 ∧ mLoadV m (adr c 2 x.slab) = 1 ∧ gI lf k = c.c) ∨ (x.line = 37 ∧ mLoadV m (adr c 2 x.slab) = 1 ∧ x.V = 1 ∧ gI lf k = c.c) ∨
     (x.line = 30 ∧ 1 ≤ gI lf k ∧ gI lf k ≤ c.c ∧ mLoadV m (adr c 2 x.slab) = 2 + 16 * (c.c - gI lf k) ∧ x.K = x.slab * c.c + gI lf k) ∨
     (x.line = 31 ∧ gI lf k = 1 ∧ mLoadV m (adr c 2 x.slab) = 2 + 16 * c.c ∧ x.K = x.slab * c.c + 1) ∨
     (x.line = 32 ∧ gI lf k = 1 ∧ mLoadV m (adr c 2 x.slab) = 2 + 16 * c.c ∧ x.K = x.slab * c.c + 1 ∧ 2 ≤ x.V ∧ x.V ≤ mLoadV m 0))
def WJ (c : Cf) (m : Mm) (hs lf : List Int) (k : Nat) (x : Wk) : Prop :=
  (x.line = 33 ∧ 0 ≤ x.J ∧ x.J < c.b) ∨ (x.line = 34 ∧ 0 ≤ x.J ∧ x.J < c.b ∧ readyV x.V x.E = true) ∨ OJ c m hs lf k x

structure JI (c : Cf) (n : Nat) (i : Int) (m : Mm) (a : Nat → Wk) (lf hs wh : List Int) : Prop where
  M : MC c m
  hn : c.a = n
  l1 : lf.length = n
  l2 : (hs.length : Int) = c.b
  l3 : (wh.length : Int) = c.b
  ep : 2 ≤ mLoadV m 0 ∧ mLoadV m 0 ≤ 2 + i
  ok : ∀ k, k < n → okW (a k) = true
  fr : ∀ j, 0 ≤ j → j < c.b → gI hs j = 0 → mLoadV m (adr c 2 j) = restV (gI wh j) ∧ 0 ≤ gI wh j ∧ gI wh j ≤ mLoadV m 0
  ow : ∀ j, 0 ≤ j → j < c.b → gI hs j = 0 ∨ ∃ k, k < n ∧ gI hs j = (k : Int) + 1 ∧ (a k).slab = j ∧ OJ c m hs lf k (a k)
  w : ∀ k, k < n → WJ c m hs lf k (a k)

section
variable {c : Cf} {n : Nat} {i : Int} {m m' : Mm} {a : Nat → Wk} {lf hs wh lf' hs' wh' : List Int} {w : Nat} {y : Wk}

theorem OJ.line {x : Wk} {k : Nat} (h : OJ c m hs lf k x) : x.line ≠ 33 ∧ x.line ≠ 34 := by
  obtain ⟨_, _, _, q⟩ := h
  rcases q with q | q | q | q | q <;> have := q.1 <;> constructor <;> omega
theorem OJ.other {x : Wk} {k : Nat} (h : OJ c m hs lf k x) (h0 : mLoadV m' 0 = mLoadV m 0) (hW : mLoadV m' (adr c 2 x.slab) = mLoadV m (adr c 2 x.slab)) (hH : gI hs' x.slab = gI hs x.slab) (hL : gI lf' k = gI lf k) : OJ c m' hs' lf' k x := by
  obtain ⟨q1, q2, q3, q⟩ := h
  refine ⟨q1, q2, hH.trans q3, ?_⟩
  rw [hW, hL, h0]; exact q

theorem JI.next (h : JI c n i m a lf hs wh) (hw : w < n) (s : Int) (hM : MC c m') (h0 : mLoadV m' 0 = mLoadV m 0)
    (hW : ∀ j, 0 ≤ j → j < c.b → j ≠ s → mLoadV m' (adr c 2 j) = mLoadV m (adr c 2 j))
    (hH : ∀ j, 0 ≤ j → j < c.b → j ≠ s → gI hs' j = gI hs j ∧ gI wh' j = gI wh j)
    (l1 : lf'.length = lf.length) (l2 : hs'.length = hs.length) (l3 : wh'.length = wh.length)
    (hL : ∀ k : Nat, k < n → k ≠ w → gI lf' k = gI lf k) (hO : 0 ≤ s → s < c.b → ∀ k : Nat, k ≠ w → gI hs s ≠ (k : Int) + 1)
    (hN : ∀ j, 0 ≤ j → j < c.b → j ≠ s → gI hs j ≠ (w : Int) + 1) (hy : okW y = true) (hwj : WJ c m' hs' lf' w y)
    (hfr : 0 ≤ s → s < c.b → gI hs' s = 0 → mLoadV m' (adr c 2 s) = restV (gI wh' s) ∧ 0 ≤ gI wh' s ∧ gI wh' s ≤ mLoadV m 0)
    (how : 0 ≤ s → s < c.b → gI hs' s = 0 ∨ (gI hs' s = (w : Int) + 1 ∧ y.slab = s ∧ OJ c m' hs' lf' w y)) : JI c n i m' (upd a w y) lf' hs' wh' := by
  refine ⟨hM, h.hn, l1.trans h.l1, by rw [l2]; exact h.l2, by rw [l3]; exact h.l3, by rw [h0]; exact h.ep, fun k hk => ?_, fun j j0 j1 hj => ?_, fun j j0 j1 => ?_, fun k hk => ?_⟩
  · by_cases e : k = w
    · subst e; rw [upd_same]; exact hy
    · rw [upd_ne e]; exact h.ok k hk
  · by_cases e : j = s
    · subst e; rw [h0]; exact hfr j0 j1 hj
    · obtain ⟨e1, e2⟩ := hH j j0 j1 e
      rw [e2, h0, hW j j0 j1 e]
      exact h.fr j j0 j1 (e1 ▸ hj)
  · by_cases e : j = s
    · subst e
      rcases how j0 j1 with q | ⟨q1, q2, q3⟩
      · exact .inl q
      · exact .inr ⟨w, hw, q1, by rw [upd_same]; exact q2, by rw [upd_same]; exact q3⟩
    · obtain ⟨e1, e2⟩ := hH j j0 j1 e
      rcases h.ow j j0 j1 with q | ⟨k, hk, q1, q2, q3⟩
      · exact .inl (e1.trans q)
      · have kw : k ≠ w := by intro z; subst z; exact hN j j0 j1 e q1
        refine .inr ⟨k, hk, e1.trans q1, by rw [upd_ne kw]; exact q2, ?_⟩
        rw [upd_ne kw]
        exact q3.other h0 (by rw [q2]; exact hW j j0 j1 e) (by rw [q2]; exact e1) (hL k hk kw)
  · by_cases e : k = w
    · subst e; rw [upd_same]; exact hwj
    · rw [upd_ne e]
      rcases h.w k hk with q | q | q
      · exact .inl q
      · exact .inr (.inl q)
      · have q' := q
        obtain ⟨q1, q2, q3, _⟩ := q'
        have es : (a k).slab ≠ s := by intro z; subst z; exact hO q1 q2 k e q3
        exact .inr (.inr (q.other h0 (hW _ q1 q2 es) (hH _ q1 q2 es).1 (hL k hk e)))

theorem JI.free (h : JI c n i m a lf hs wh) (hl : (a w).line = 33 ∨ (a w).line = 34) : ∀ j, 0 ≤ j → j < c.b → gI hs j ≠ (w : Int) + 1 := by
  intro j j0 j1 e
  rcases h.ow j j0 j1 with q | ⟨k, hk, q1, q2, q3⟩
  · omega
  · have : k = w := by omega
    subst this
    have := q3.line
    rcases hl with hl | hl <;> omega
theorem JI.mine (h : JI c n i m a lf hs wh) {s : Int} (hs' : (a w).slab = s) : ∀ j, 0 ≤ j → j < c.b → j ≠ s → gI hs j ≠ (w : Int) + 1 := by
  intro j j0 j1 e z
  rcases h.ow j j0 j1 with q | ⟨k, hk, q1, q2, q3⟩
  · omega
  · have : k = w := by omega
    subst this
    exact e (q2.symm.trans hs')
theorem adr2_in (hc : chkC c = 0) {j : Int} (j0 : 0 ≤ j) (j1 : j < c.b) : adr c 2 j = 3 + c.a + j := by rw [adr2 hc, if_pos ⟨j0, j1⟩]
theorem adr2_ne (hc : chkC c = 0) {j s : Int} (j0 : 0 ≤ j) (j1 : j < c.b) (s0 : 0 ≤ s) (s1 : s < c.b) (e : j ≠ s) : adr c 2 s ≠ adr c 2 j := by
  rw [adr2_in hc j0 j1, adr2_in hc s0 s1]; omega
theorem MC.slab (h : MC c m) {j : Int} (j0 : 0 ≤ j) (j1 : j < c.b) : Mm.ok m (adr c 2 j) = true := by
  have hc := h.chk
  obtain ⟨⟨a1, a2⟩, ⟨b1, b2⟩, _⟩ := chk_zero hc
  have e := szC_eq hc
  have := h.sz
  rw [okA, adr2_in hc j0 j1]
  unfold sizeN at e
  omega
theorem wordV_ld (h : MC c m) {j : Int} (j0 : 0 ≤ j) (j1 : j < c.b) : (wordV c m.ws j).1 = mLoadV m (adr c 2 j) := by
  rw [wordV_yes h.chk h.sz j0 j1]
  unfold mLoadV
  rw [h.slab j0 j1, cond_true, adr2_in h.chk j0 j1]; rfl
theorem home_in (hc : chkC c = 0) {s L K : Int} (s0 : 0 ≤ s) (s1 : s < c.b) (l0 : 1 ≤ L) (l1 : L ≤ c.c) (hK : K = s * c.c + L) : adrH c K = adr c 2 s := by
  obtain ⟨_, ⟨b1, b2⟩, ⟨c1, c2⟩, _⟩ := chk_zero hc
  have hm : 0 ≤ s * c.c := Int.mul_nonneg s0 (by omega)
  have hm2 : s * c.c ≤ (c.b - 1) * c.c := Int.mul_le_mul_of_nonneg_right (by omega) (by omega)
  have hm4 : c.b * c.c ≤ 8 * c.c := Int.mul_le_mul_of_nonneg_right (by omega) (by omega)
  have hm3 : (c.b - 1) * c.c = c.b * c.c - c.c := by rw [Int.sub_mul]; omega
  have e : w64' (K - 1) = K - 1 := w64_id (by omega) (by omega)
  unfold adrH homeV
  rw [e, decide_eq_true (show 0 ≤ K - 1 by omega), decide_eq_true (show K - 1 < c.b * c.c by omega), show (chkC c == 0) = true by rw [hc]; rfl]
  simp only [Bool.and_self, cond_true]
  congr 1
  rw [hK, show s * c.c + L - 1 = (L - 1) + s * c.c by omega, Int.add_mul_ediv_right _ _ (by omega), Int.ediv_eq_zero_of_lt (by omega) (by omega)]
  omega

theorem sB_30 {x : Wk} (hl : x.line = 30) : stepB m x = bif wU (mLoadV m (adrH m.c x.K) + 16) / 16 % 4096 == m.c.c then ⟨mAdd m (adrH m.c x.K) 16, { x with line := 31 }, 0, true⟩ else ⟨mAdd m (adrH m.c x.K) 16, { x with line := 0, K := 0 }, 1, true⟩ := by
  unfold stepB; rw [if_pos hl]
theorem sB_31 {x : Wk} (hl : x.line = 31) : stepB m x = ⟨mLoad m 0, { x with V := mLoadV m 0, line := 32 }, 0, true⟩ := by
  unfold stepB; rw [if_neg (by omega), if_pos hl]
theorem sB_32 {x : Wk} (hl : x.line = 32) : stepB m x = ⟨mStore m (adrH m.c x.K) (pSlab 3 0 x.V), { x with line := 0, K := 0 }, 1, true⟩ := by
  unfold stepB; rw [if_neg (by omega), if_neg (by omega), if_pos hl]
theorem MC.store' (h : MC c m) (a v : Int) (hv : uB v = true) : MC c (mStore m a v) := ⟨okM_store h.ok hv, h.hc, by rw [show (mStore m a v).ws = mSet m (Mm.ok m a) a v from rfl, len_mSet]; exact h.sz⟩
theorem MC.add (h : MC c m) (a v : Int) : MC c (mAdd m a v) := ⟨okM_add h.ok, h.hc, by rw [show (mAdd m a v).ws = mSet m (Mm.ok m a) a _ from rfl, len_mSet]; exact h.sz⟩

/-- A step of a slab's owner. -/
theorem JI.own (h : JI c n i m a lf hs wh) (hw : w < n) {s : Int} (s0 : 0 ≤ s) (s1 : s < c.b) (hsl : (a w).slab = s) (hh : gI hs s = (w : Int) + 1) (hM : MC c m') (h0 : mLoadV m' 0 = mLoadV m 0)
    (hW : ∀ j, 0 ≤ j → j < c.b → j ≠ s → mLoadV m' (adr c 2 j) = mLoadV m (adr c 2 j)) (l1 : lf'.length = lf.length) (hL : ∀ k : Nat, k < n → k ≠ w → gI lf' k = gI lf k)
    (hy : okW y = true) (ho : OJ c m' hs lf' w y) (hys : y.slab = s) : JI c n i m' (upd a w y) lf' hs wh :=
  h.next hw s hM h0 hW (fun j _ _ _ => ⟨rfl, rfl⟩) l1 rfl rfl hL (fun _ _ k hk => by rw [hh]; omega) (h.mine hsl) hy (.inr (.inr ho)) (fun _ _ q => by rw [hh] at q; omega) (fun _ _ => .inr ⟨hh, hys, ho⟩)

theorem JI.later (h : JI c n i m a lf hs wh) : JI c n (i + 1) m a lf hs wh := ⟨h.M, h.hn, h.l1, h.l2, h.l3, by have := h.ep; omega, h.ok, h.fr, h.ow, h.w⟩
end
end Go.Sx.Pr

/- GiveAlone: the release of held blocks, without interference. Plain Lean. -/
namespace Go.Sx.Pr
open Go Go.Sx Go.Sx.Md

/-- What give.Step asks of its arguments. -/
def guG (m : Mm) (x : Wk) : Bool := okM m && okW x && (shW x && decide (x.rack.length < 999999))
/-- So many steps lead to an answer. -/
inductive GoG : Nat → Mm → Wk → SR → Prop
  | one {m : Mm} {x : Wk} (hg : guG m x = true) (hok : (stepG m x).ok = true) : GoG 1 m x (stepG m x)
  | more {k : Nat} {m : Mm} {x : Wk} {r : SR} (hg : guG m x = true) (hok : (stepG m x).ok = true) (hw : (stepG m x).way = 0) (h : GoG k (stepG m x).m (stepG m x).x r) : GoG (k + 1) m x r
theorem GoG.one' {m : Mm} {x : Wk} {r : SR} (hg : guG m x = true) (e : stepG m x = r) (hok : r.ok = true) : GoG 1 m x r := by
  subst e; exact .one hg hok
theorem GoG.more' {k : Nat} {m m1 : Mm} {x x1 : Wk} {r : SR} (hg : guG m x = true) (e : stepG m x = ⟨m1, x1, 0, true⟩) (h : GoG k m1 x1 r) : GoG (k + 1) m x r :=
  .more hg (by rw [e]) (by rw [e]) (by rw [e]; exact h)
theorem GoG.trans {k j : Nat} {m : Mm} {x : Wk} {m1 : Mm} {x1 : Wk} {r : SR} (h : GoG k m x ⟨m1, x1, 0, true⟩) (h2 : GoG j m1 x1 r) : GoG (k + j) m x r := by
  generalize hq : (⟨m1, x1, 0, true⟩ : SR) = q at h
  induction h with
  | one hg hok =>
    rw [Nat.add_comm]
    exact .more hg hok (by rw [← hq]) (by rw [← hq]; exact h2)
  | more hg hok hw _ ih => 
    rw [Nat.add_right_comm]
    exact .more hg hok hw (ih hq)

/-- The lists of a worker that releases blocks. -/
structure SmG (x : Wk) : Prop where
  r : x.rack.length ≤ 100
  h : x.hold.length ≤ 100
  a : x.l0 = []
  b : x.l1 = []
  c : x.l2 = []
  d : x.read = []
theorem SmG.gu {m : Mm} {x : Wk} (h : SmG x) (hm : okM m = true) (hx : okW x = true) : guG m x = true := by
  obtain ⟨h1, h2, h3, h4, h5, h6⟩ := h
  unfold guG shW
  rw [hm, hx, h3, h4, h5, h6]
  simp only [Bool.and_self, List.length_nil, Bool.and_eq_true, decide_eq_true_eq, true_and]
  omega

/-! ### the plan -/
structure St3 where
  ds : List Int
  R : List Int
  W : List Int
def nxtG (c : Cf) (s : St3) (h : Int) : St3 :=
  if 0 < gI s.ds (h / c.c) then { s with ds := s.ds.set (h / c.c).toNat (gI s.ds (h / c.c) - 1) }
  else if (s.R.length : Int) < c.f then { s with R := s.R ++ [h] } else { s with W := h :: s.W }
def planG (c : Cf) : List Int → St3 → Option St3
  | [], s => some s
  | h :: t, s => if gI s.ds (h / c.c) = 0 then none else planG c t (nxtG c s h)

/-- What a slab's word says. -/
def SlG (c : Cf) (m : Mm) (d j : Int) : Prop :=
  (d = -1 ∧ mLoadV m (adr c 2 j) % 16 ≠ 2) ∨ (d = 0 ∧ mLoadV m (adr c 2 j) % 16 = 3) ∨ (0 < d ∧ mLoadV m (adr c 2 j) % 16 = 2 ∧ mLoadV m (adr c 2 j) / 16 % 4096 = c.c - d)
structure GA (c : Cf) (m : Mm) (s : St3) : Prop where
  M : MC c m
  ls : listV c m.ws false = some s.W
  len : (s.ds.length : Int) = c.b
  dr : ∀ j : Int, 0 ≤ j → j < c.b → SlG c m (gI s.ds j) j
  rk : s.R.length ≤ 4

theorem MC.mw {c : Cf} {m : Mm} (h : MC c m) : MW m := ⟨h.ok, by rw [h.hc]; exact h.sz⟩

/-- A list is the same where its words are. -/
theorem list_keep {c : Cf} {m m' : Mm} {W : List Int} (h : MC c m) (h' : MC c m') (hd : mLoadV m' 1 = mLoadV m 1) (hn : ∀ i, 0 ≤ i → i < c.b * c.c → mLoadV m' (adr c 5 i) = mLoadV m (adr c 5 i)) (hL : listV c m.ws false = some W) : listV c m'.ws false = some W := by
  obtain ⟨f1, f2, f3, f4, f5, f6⟩ := listV_some hL
  refine listV_of (c := c) f1 h'.sz ?_ f4 f5
  rw [top_ld h'.mw false]
  show Chain _ (mLoadV m' 1 % 4294967296) W
  rw [hd]
  rw [top_ld h.mw false] at f3
  refine Chain.congr (f3 : Chain _ (mLoadV m 1 % 4294967296) W) fun j hj => ?_
  have hj' := f5 j hj
  have a1 := nxt_ld h'.mw (en := false) hj'.1 (by rw [h'.hc]; exact hj'.2)
  have a2 := nxt_ld h.mw (en := false) hj'.1 (by rw [h.hc]; exact hj'.2)
  rw [h'.hc] at a1
  rw [h.hc] at a2
  rw [a1, a2]
  show mLoadV m' (adr c 5 j) % _ = mLoadV m (adr c 5 j) % _
  rw [hn j hj'.1 hj'.2]

section
variable {c : Cf} {m : Mm} {x : Wk}
theorem blk_in (hc : chkC c = 0) {h : Int} (h0 : 0 ≤ h) (h1 : h < c.b * c.c) : 0 ≤ h / c.c ∧ h / c.c < c.b ∧ h ≤ 128 ∧ adrH c (h + 1) = adr c 2 (h / c.c) ∧ w64' (h + 1 - 1) = h ∧ w64' (h + 1) = h + 1 := by
  obtain ⟨_, ⟨b1, b2⟩, ⟨c1, c2⟩, _⟩ := chk_zero hc
  have hm4 : c.b * c.c ≤ 8 * c.c := Int.mul_le_mul_of_nonneg_right (by omega) (by omega)
  have d0 : 0 ≤ h / c.c := Int.ediv_nonneg h0 (by omega)
  have d1 : h / c.c < c.b := Int.ediv_lt_of_lt_mul (by omega) h1
  have e := Int.emod_add_mul_ediv h c.c
  have e0 := Int.emod_nonneg h (show c.c ≠ 0 by omega)
  have e1 := Int.emod_lt_of_pos h (show 0 < c.c by omega)
  refine ⟨d0, d1, by omega, home_in hc d0 d1 (L := h % c.c + 1) (by omega) (by omega) (by rw [Int.mul_comm (h / c.c)]; omega), by rw [w64_id (by omega) (by omega)]; omega, w64_id (by omega) (by omega)⟩
theorem slab_ne_head (hc : chkC c = 0) {j : Int} (j0 : 0 ≤ j) (j1 : j < c.b) : adr c 2 j ≠ 1 ∧ adr c 2 j ≠ 0 := by
  obtain ⟨⟨a1, a2⟩, _⟩ := chk_zero hc
  rw [adr2_in hc j0 j1]; omega
theorem slab_ne_link (hc : chkC c = 0) {j i : Int} (j0 : 0 ≤ j) (j1 : j < c.b) (i0 : 0 ≤ i) (i1 : i < c.b * c.c) : adr c 2 j ≠ adr c 5 i := by
  obtain ⟨⟨a1, a2⟩, ⟨b1, b2⟩, ⟨c1, c2⟩, ⟨d1, d2⟩, ⟨e1, e2⟩, _⟩ := chk_zero hc
  have := adr_in hc (en := false) i0 i1
  rw [show adr c 5 i = adr c (kindL false) i from rfl, this, adr2_in hc j0 j1]
  have : 0 ≤ (1 + c.d) * i := Int.mul_nonneg (by omega) i0
  simp only [cond_false]
  omega

theorem sG_39 (hl : x.line = 39) : stepG m x = bif mLoadV m (adrH m.c x.K) % 16 == 2 then ⟨mLoad m (adrH m.c x.K), { x with line := 30 }, 0, true⟩
    else bif decide ((x.rack.length : Int) ≥ m.c.f) then ⟨mLoad m (adrH m.c x.K), { x with line := 13 }, 0, true⟩
    else endG (mLoad m (adrH m.c x.K)) { x with line := 0, rack := x.rack ++ [w64' (x.K - 1)] } := by
  unfold stepG stepB
  rw [if_neg (by omega), if_neg (by omega), if_pos hl]
  simp only [hl, Int.reduceEq, if_false, if_true]
  cases mLoadV m (adrH m.c x.K) % 16 == 2 <;> rfl
theorem sG_30 (hl : x.line = 30) : stepG m x = bif wU (mLoadV m (adrH m.c x.K) + 16) / 16 % 4096 == m.c.c then ⟨mAdd m (adrH m.c x.K) 16, { x with line := 31 }, 0, true⟩ else endG (mAdd m (adrH m.c x.K) 16) { x with line := 0, K := 0 } := by
  unfold stepG
  rw [if_neg (by omega), if_pos (by omega), sB_30 hl]
  cases wU (mLoadV m (adrH m.c x.K) + 16) / 16 % 4096 == m.c.c <;> rfl
theorem sG_31 (hl : x.line = 31) : stepG m x = ⟨mLoad m 0, { x with V := mLoadV m 0, line := 32 }, 0, true⟩ := by
  unfold stepG
  rw [if_neg (by omega), if_pos (by omega), sB_31 hl]; rfl
theorem sG_32 (hl : x.line = 32) : stepG m x = endG (mStore m (adrH m.c x.K) (pSlab 3 0 x.V)) { x with line := 0, K := 0 } := by
  unfold stepG
  rw [if_neg (by omega), if_pos (by omega), sB_32 hl]; rfl
theorem sG_13 (hl : x.line = 13) : stepG m x = ⟨mLoad m 1, { x with V := mLoadV m 1, line := 14 }, 0, true⟩ := by
  unfold stepG
  rw [if_pos (by omega), sL3 (en := false) (by rw [hl]; rfl)]; rfl
theorem sG_14 (hl : x.line = 14) : stepG m x = ⟨mStore m (adr m.c 5 (w64' (x.K - 1))) (x.V % 4294967296), { x with line := 15 }, 0, true⟩ := by
  unfold stepG
  rw [if_pos (by omega), sL4 (en := false) (by rw [hl]; rfl)]; rfl
theorem sG_15 (hl : x.line = 15) (h : mCasB m 1 x.V = true) : stepG m x = endG (mCas m 1 x.V (pHead (w64' (x.K - 1)) (x.V / 4294967296 + 1))) { x with line := 0 } := by
  unfold stepG
  rw [if_pos (by omega), sL5 (en := false) (by rw [hl]; rfl)]
  rw [show mCasB m (headL false) x.V = true from h]
  rfl
theorem sG_39k {k : Int} (hl : x.line = 39) (hk : x.K = k) : stepG m x = bif mLoadV m (adrH m.c k) % 16 == 2 then ⟨mLoad m (adrH m.c k), { x with line := 30 }, 0, true⟩
    else bif decide ((x.rack.length : Int) ≥ m.c.f) then ⟨mLoad m (adrH m.c k), { x with line := 13 }, 0, true⟩
    else endG (mLoad m (adrH m.c k)) { x with line := 0, rack := x.rack ++ [w64' (k - 1)] } := by subst hk; exact sG_39 hl
theorem sG_14k {k v : Int} (hl : x.line = 14) (hk : x.K = k) (hv : x.V = v) : stepG m x = ⟨mStore m (adr m.c 5 (w64' (k - 1))) (v % 4294967296), { x with line := 15 }, 0, true⟩ := by subst hk hv; exact sG_14 hl
theorem sG_15k {k v : Int} (hl : x.line = 15) (hk : x.K = k) (hv : x.V = v) (h : mCasB m 1 v = true) : stepG m x = endG (mCas m 1 v (pHead (w64' (k - 1)) (v / 4294967296 + 1))) { x with line := 0 } := by subst hk hv; exact sG_15 hl h
theorem sG_30k {k : Int} (hl : x.line = 30) (hk : x.K = k) : stepG m x = bif wU (mLoadV m (adrH m.c k) + 16) / 16 % 4096 == m.c.c then ⟨mAdd m (adrH m.c k) 16, { x with line := 31 }, 0, true⟩ else endG (mAdd m (adrH m.c k) 16) { x with line := 0, K := 0 } := by subst hk; exact sG_30 hl
theorem sG_32k {k v : Int} (hl : x.line = 32) (hk : x.K = k) (hv : x.V = v) : stepG m x = endG (mStore m (adrH m.c k) (pSlab 3 0 v)) { x with line := 0, K := 0 } := by subst hk hv; exact sG_32 hl
theorem sS_14k {k v : Int} (hl : x.line = 14) (hk : x.K = k) (hv : x.V = v) : stepS m x = ⟨mStore m (adr m.c 5 (w64' (k - 1))) (v % 4294967296), { x with line := 15 }, 0, true⟩ := by subst hk hv; exact sL4 (en := false) hl
theorem sS_15k {k v : Int} (hl : x.line = 15) (hk : x.K = k) (hv : x.V = v) (h : mCasB m 1 v = true) : stepS m x = ⟨mCas m 1 v (pHead (w64' (k - 1)) (v / 4294967296 + 1)), { x with line := 0 }, 1, true⟩ := by
  subst hk hv
  have := sL5 (m := m) (en := false) hl
  rw [show mCasB m (headL false) x.V = true from h, cond_true] at this
  exact this
end
end Go.Sx.Pr
