/-
  No cell of these rows narrows 'for every input' (looked for: loops, veiled, ifaces, maps, wideKeys, modest, calm, conditions, laid).
  DERIVED. THE GIVEN ROWS OF THIS SEAT. 3 by the template 'for every input the law returns true; each argument reads behind the call as it read before'; 0 by the template 'total and deterministic' (their statements: YtaejdljgfmclpaaGreatTotals.lean).
  GIVEN WITH THE SEED: the statements are not yours to turn. If you find one false, say at which input.
  Laid BY PROGRAM, IN A SANDBOX (cutbox-rows.mjs): the forced cells as the released guide's own fill.sh prints them over the translation 0b9ae83af5ac64df… (all of the seat's roots in one cut). By AI agents, Wed Nov 11 2026. No macro, syntax, notation, axiom, sorry.
-/
import Derived.Test.YtaejdljgfmclpaaGreatChecked
import GoSem.Claim
import GoSem.ClaimJoined
import GoSem.ClaimMapViews
import Derived.JoinedTies
import Derived.KernelRfl
namespace Go.Proofs.YtaejdljgfmclpaaGreat
/- THE CELL 'sum', in the pinned program and in every row, IS THE sha256 OF THE DUMP (.gsa) THAT YtaejdljgfmclpaaGreatProg.lean LOADS. Nothing in Lean hashes anything: it is a label: what it is worth is what the hold of that sum in a sandbox is worth. -/
noncomputable def Tryz.pinned : Pinned := { name := "ytaejdljgfmclpaagreat", sum := "0b9ae83af5ac64df7f2dd8886cb54e4dc87c8317c179434a41e7778b6aa4fdf1", checked := Tryz.checked }
namespace Rows
def none {H : Type} : Left H := { results := [], args := [] }

/-- 'coatchecklaw15.HallOrder': WHATEVER THE INPUT: true; the input reads as it did. -/
def hallOrderSpec : ChangeSpec := { name := "hallOrder", fn := fun _ => fun
  | [d1, d2, d3] => { results := [.lit (.bool true)], args := [d1, d2, d3] }
  | _ => none }
def hallOrderRow : OpenClaim := { program := "ytaejdljgfmclpaagreat", sum := "0b9ae83af5ac64df7f2dd8886cb54e4dc87c8317c179434a41e7778b6aa4fdf1", func := "coatcheck/coatchecklaw15.HallOrder", spec := "hallOrder", unfollowed := true, recurses := true, apart := false }
def HallOrderSaid : Prop := hallOrderRow.holds Tryz.pinned (OpenSpec.ofChange hallOrderSpec)

/-- ITS FALSE NEIGHBOUR: 'it returns false'. Refute it at one input. -/
def hallOrderWrong : ChangeSpec := { name := "hallOrder", fn := fun _ => fun
  | [d1, d2, d3] => { results := [.lit (.bool false)], args := [d1, d2, d3] }
  | _ => none }
def HallOrderWrongFalsely : Prop := hallOrderRow.holds Tryz.pinned (OpenSpec.ofChange hallOrderWrong)

/-- 'coatchecklaw15.HallNone': WHATEVER THE INPUT: true; the input reads as it did. -/
def hallNoneSpec : ChangeSpec := { name := "hallNone", fn := fun _ => fun
  | [d1, d2] => { results := [.lit (.bool true)], args := [d1, d2] }
  | _ => none }
def hallNoneRow : OpenClaim := { program := "ytaejdljgfmclpaagreat", sum := "0b9ae83af5ac64df7f2dd8886cb54e4dc87c8317c179434a41e7778b6aa4fdf1", func := "coatcheck/coatchecklaw15.HallNone", spec := "hallNone", unfollowed := true, recurses := true, apart := false }
def HallNoneSaid : Prop := hallNoneRow.holds Tryz.pinned (OpenSpec.ofChange hallNoneSpec)

/-- ITS FALSE NEIGHBOUR: 'it returns false'. Refute it at one input. -/
def hallNoneWrong : ChangeSpec := { name := "hallNone", fn := fun _ => fun
  | [d1, d2] => { results := [.lit (.bool false)], args := [d1, d2] }
  | _ => none }
def HallNoneWrongFalsely : Prop := hallNoneRow.holds Tryz.pinned (OpenSpec.ofChange hallNoneWrong)

/-- 'coatchecklaw20.PaceNone': WHATEVER THE INPUT: true; the input reads as it did. -/
def paceNoneSpec : ChangeSpec := { name := "paceNone", fn := fun _ => fun
  | [d1, d2] => { results := [.lit (.bool true)], args := [d1, d2] }
  | _ => none }
def paceNoneRow : OpenClaim := { program := "ytaejdljgfmclpaagreat", sum := "0b9ae83af5ac64df7f2dd8886cb54e4dc87c8317c179434a41e7778b6aa4fdf1", func := "coatcheck/coatchecklaw20.PaceNone", spec := "paceNone", unfollowed := true, recurses := true, apart := false }
def PaceNoneSaid : Prop := paceNoneRow.holds Tryz.pinned (OpenSpec.ofChange paceNoneSpec)

/-- ITS FALSE NEIGHBOUR: 'it returns false'. Refute it at one input. -/
def paceNoneWrong : ChangeSpec := { name := "paceNone", fn := fun _ => fun
  | [d1, d2] => { results := [.lit (.bool false)], args := [d1, d2] }
  | _ => none }
def PaceNoneWrongFalsely : Prop := paceNoneRow.holds Tryz.pinned (OpenSpec.ofChange paceNoneWrong)

/- THE SECOND FORM. 'bulk': how many values and letters a reading holds, each counted each time it is reached (what is shared counts as often as it is met; a slice's spare places count too). A statement '..UptoSaid' is the law's where the arguments, and the package variables that the reading takes, are together of bulk at most 1048576: NARROWER than '..Said'. Prove '..Said' where nothing that the law and all that it calls make is longer than what came in: it says more and counts as full. Else prove '..UptoSaid'. A law counts once. -/
mutual
def uptoBulk {H : Type} : DataW H → Nat
  | .lit (.string bytes) => bytes.length + 1
  | .lit _ => 1
  | .nil => 1
  | .ptr d => uptoBulk d + 1
  | .slice elems spare => uptoBulkAll elems + uptoBulkAll spare + 1
  | .agg parts => uptoBulkAll parts + 1
  | .iface _ d => uptoBulk d + 1
  | .map entries => uptoBulkEntries entries + 1
  | .held _ => 1
def uptoBulkAll {H : Type} : List (DataW H) → Nat
  | [] => 0
  | d :: r => uptoBulk d + uptoBulkAll r
def uptoBulkEntries {H : Type} : List (Lit × DataW H) → Nat
  | [] => 0
  | x :: r => uptoBulkEntry x + uptoBulkEntries r
def uptoBulkEntry {H : Type} : Lit × DataW H → Nat
  | (.string bytes, d) => bytes.length + uptoBulk d + 1
  | (_, d) => uptoBulk d + 1
 end
def uptoSmall : (H : Type) → List (DataW H) → Bool := fun _ ds => decide (uptoBulkAll ds ≤ 1048576)
def OpenSpec.upto (s : _root_.Go.ChangeSpec) : _root_.Go.OpenSpec := { _root_.Go.OpenSpec.ofChange s with cond := some uptoSmall }

/-- 'coatchecklaw15.HallOrder', WHERE WHAT IT READS IS OF BULK AT MOST 1048576: true; the input reads as it did. -/
def hallOrderUptoRow : OpenClaim := { program := "ytaejdljgfmclpaagreat", sum := "0b9ae83af5ac64df7f2dd8886cb54e4dc87c8317c179434a41e7778b6aa4fdf1", func := "coatcheck/coatchecklaw15.HallOrder", spec := "hallOrder", unfollowed := true, recurses := true, apart := false, narrowed := true }
def HallOrderUptoSaid : Prop := hallOrderUptoRow.holds Tryz.pinned (OpenSpec.upto hallOrderSpec)

/-- 'coatchecklaw15.HallNone', WHERE WHAT IT READS IS OF BULK AT MOST 1048576: true; the input reads as it did. -/
def hallNoneUptoRow : OpenClaim := { program := "ytaejdljgfmclpaagreat", sum := "0b9ae83af5ac64df7f2dd8886cb54e4dc87c8317c179434a41e7778b6aa4fdf1", func := "coatcheck/coatchecklaw15.HallNone", spec := "hallNone", unfollowed := true, recurses := true, apart := false, narrowed := true }
def HallNoneUptoSaid : Prop := hallNoneUptoRow.holds Tryz.pinned (OpenSpec.upto hallNoneSpec)

/-- 'coatchecklaw20.PaceNone', WHERE WHAT IT READS IS OF BULK AT MOST 1048576: true; the input reads as it did. -/
def paceNoneUptoRow : OpenClaim := { program := "ytaejdljgfmclpaagreat", sum := "0b9ae83af5ac64df7f2dd8886cb54e4dc87c8317c179434a41e7778b6aa4fdf1", func := "coatcheck/coatchecklaw20.PaceNone", spec := "paceNone", unfollowed := true, recurses := true, apart := false, narrowed := true }
def PaceNoneUptoSaid : Prop := paceNoneUptoRow.holds Tryz.pinned (OpenSpec.upto paceNoneSpec)

end Rows
end Go.Proofs.YtaejdljgfmclpaaGreat
