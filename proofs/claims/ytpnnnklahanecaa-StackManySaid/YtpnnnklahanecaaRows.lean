/-
  No cell of these rows narrows 'for every input' (looked for: loops, veiled, ifaces, maps, wideKeys, modest, calm, conditions, laid).
  DERIVED. THE GIVEN ROWS OF THIS SEAT. 12 by the template 'for every input the law returns true; each argument reads behind the call as it read before'; 0 by the template 'total and deterministic' (their statements: YtpnnnklahanecaaTotals.lean).
  GIVEN WITH THE SEED: the statements are not yours to turn. If you find one false, say at which input.
  Laid BY PROGRAM, IN A SANDBOX (cutbox-rows.mjs): the forced cells as the released guide's own fill.sh prints them over the translation 1e414e802fb4f860… (all of the seat's roots in one cut). By AI agents, Wed Nov 11 2026. No macro, syntax, notation, axiom, sorry.
-/
import Derived.Test.YtpnnnklahanecaaChecked
import GoSem.Claim
import GoSem.ClaimJoined
import GoSem.ClaimMapViews
import Derived.JoinedTies
import Derived.KernelRfl
namespace Go.Proofs.Ytpnnnklahanecaa
/- THE CELL 'sum', in the pinned program and in every row, IS THE sha256 OF THE DUMP (.gsa) THAT YtpnnnklahanecaaProg.lean LOADS. Nothing in Lean hashes anything: it is a label: what it is worth is what the hold of that sum in a sandbox is worth. -/
noncomputable def Try.pinned : Pinned := { name := "ytpnnnklahanecaa", sum := "1e414e802fb4f8605c6c1d32ce7b37b743d73bef2b7c2ef651d73801147dab90", checked := Try.checked }
namespace Rows
def none {H : Type} : Left H := { results := [], args := [] }

/-- 'coatchecklaw03.MemoryPlays': WHATEVER THE INPUT: true; the input reads as it did. -/
def memoryPlaysSpec : ChangeSpec := { name := "memoryPlays", fn := fun _ => fun
  | [d1, d2, d3] => { results := [.lit (.bool true)], args := [d1, d2, d3] }
  | _ => none }
def memoryPlaysRow : OpenClaim := { program := "ytpnnnklahanecaa", sum := "1e414e802fb4f8605c6c1d32ce7b37b743d73bef2b7c2ef651d73801147dab90", func := "coatcheck/coatchecklaw03.MemoryPlays", spec := "memoryPlays", plainKeys := false, apart := false }
def MemoryPlaysSaid : Prop := memoryPlaysRow.holds Try.pinned (OpenSpec.ofChange memoryPlaysSpec)

/-- ITS FALSE NEIGHBOUR: 'it returns false'. Refute it at one input. -/
def memoryPlaysWrong : ChangeSpec := { name := "memoryPlays", fn := fun _ => fun
  | [d1, d2, d3] => { results := [.lit (.bool false)], args := [d1, d2, d3] }
  | _ => none }
def MemoryPlaysWrongFalsely : Prop := memoryPlaysRow.holds Try.pinned (OpenSpec.ofChange memoryPlaysWrong)

/-- 'coatchecklaw03.MemoryFirst': WHATEVER THE INPUT: true; the input reads as it did. -/
def memoryFirstSpec : ChangeSpec := { name := "memoryFirst", fn := fun _ => fun
  | [d1, d2, d3] => { results := [.lit (.bool true)], args := [d1, d2, d3] }
  | _ => none }
def memoryFirstRow : OpenClaim := { program := "ytpnnnklahanecaa", sum := "1e414e802fb4f8605c6c1d32ce7b37b743d73bef2b7c2ef651d73801147dab90", func := "coatcheck/coatchecklaw03.MemoryFirst", spec := "memoryFirst", plainKeys := false, apart := false }
def MemoryFirstSaid : Prop := memoryFirstRow.holds Try.pinned (OpenSpec.ofChange memoryFirstSpec)

/-- ITS FALSE NEIGHBOUR: 'it returns false'. Refute it at one input. -/
def memoryFirstWrong : ChangeSpec := { name := "memoryFirst", fn := fun _ => fun
  | [d1, d2, d3] => { results := [.lit (.bool false)], args := [d1, d2, d3] }
  | _ => none }
def MemoryFirstWrongFalsely : Prop := memoryFirstRow.holds Try.pinned (OpenSpec.ofChange memoryFirstWrong)

/-- 'coatchecklaw16.OrderKeeps': WHATEVER THE INPUT: true; the input reads as it did. -/
def orderKeepsSpec : ChangeSpec := { name := "orderKeeps", fn := fun _ => fun
  | [d] => { results := [.lit (.bool true)], args := [d] }
  | _ => none }
def orderKeepsRow : OpenClaim := { program := "ytpnnnklahanecaa", sum := "1e414e802fb4f8605c6c1d32ce7b37b743d73bef2b7c2ef651d73801147dab90", func := "coatcheck/coatchecklaw16.OrderKeeps", spec := "orderKeeps", unfollowed := true, recurses := true, plainKeys := false, apart := false }
def OrderKeepsSaid : Prop := orderKeepsRow.holds Try.pinned (OpenSpec.ofChange orderKeepsSpec)

/-- ITS FALSE NEIGHBOUR: 'it returns false'. Refute it at one input. -/
def orderKeepsWrong : ChangeSpec := { name := "orderKeeps", fn := fun _ => fun
  | [d] => { results := [.lit (.bool false)], args := [d] }
  | _ => none }
def OrderKeepsWrongFalsely : Prop := orderKeepsRow.holds Try.pinned (OpenSpec.ofChange orderKeepsWrong)

/-- 'coatchecklaw16.OrderApart': WHATEVER THE INPUT: true; the input reads as it did. -/
def orderApartSpec : ChangeSpec := { name := "orderApart", fn := fun _ => fun
  | [d] => { results := [.lit (.bool true)], args := [d] }
  | _ => none }
def orderApartRow : OpenClaim := { program := "ytpnnnklahanecaa", sum := "1e414e802fb4f8605c6c1d32ce7b37b743d73bef2b7c2ef651d73801147dab90", func := "coatcheck/coatchecklaw16.OrderApart", spec := "orderApart", unfollowed := true, recurses := true, plainKeys := false, apart := false }
def OrderApartSaid : Prop := orderApartRow.holds Try.pinned (OpenSpec.ofChange orderApartSpec)

/-- ITS FALSE NEIGHBOUR: 'it returns false'. Refute it at one input. -/
def orderApartWrong : ChangeSpec := { name := "orderApart", fn := fun _ => fun
  | [d] => { results := [.lit (.bool false)], args := [d] }
  | _ => none }
def OrderApartWrongFalsely : Prop := orderApartRow.holds Try.pinned (OpenSpec.ofChange orderApartWrong)

/-- 'coatchecklaw06.StackSteps': WHATEVER THE INPUT: true; the input reads as it did. -/
def stackStepsSpec : ChangeSpec := { name := "stackSteps", fn := fun _ => fun
  | [d1, d2, d3, d4, d5] => { results := [.lit (.bool true)], args := [d1, d2, d3, d4, d5] }
  | _ => none }
def stackStepsRow : OpenClaim := { program := "ytpnnnklahanecaa", sum := "1e414e802fb4f8605c6c1d32ce7b37b743d73bef2b7c2ef651d73801147dab90", func := "coatcheck/coatchecklaw06.StackSteps", spec := "stackSteps", unfollowed := true, recurses := true, plainKeys := false, apart := false }
def StackStepsSaid : Prop := stackStepsRow.holds Try.pinned (OpenSpec.ofChange stackStepsSpec)

/-- ITS FALSE NEIGHBOUR: 'it returns false'. Refute it at one input. -/
def stackStepsWrong : ChangeSpec := { name := "stackSteps", fn := fun _ => fun
  | [d1, d2, d3, d4, d5] => { results := [.lit (.bool false)], args := [d1, d2, d3, d4, d5] }
  | _ => none }
def StackStepsWrongFalsely : Prop := stackStepsRow.holds Try.pinned (OpenSpec.ofChange stackStepsWrong)

/-- 'coatchecklaw06.StackTakes': WHATEVER THE INPUT: true; the input reads as it did. -/
def stackTakesSpec : ChangeSpec := { name := "stackTakes", fn := fun _ => fun
  | [d1, d2, d3] => { results := [.lit (.bool true)], args := [d1, d2, d3] }
  | _ => none }
def stackTakesRow : OpenClaim := { program := "ytpnnnklahanecaa", sum := "1e414e802fb4f8605c6c1d32ce7b37b743d73bef2b7c2ef651d73801147dab90", func := "coatcheck/coatchecklaw06.StackTakes", spec := "stackTakes", unfollowed := true, recurses := true, plainKeys := false, apart := false }
def StackTakesSaid : Prop := stackTakesRow.holds Try.pinned (OpenSpec.ofChange stackTakesSpec)

/-- ITS FALSE NEIGHBOUR: 'it returns false'. Refute it at one input. -/
def stackTakesWrong : ChangeSpec := { name := "stackTakes", fn := fun _ => fun
  | [d1, d2, d3] => { results := [.lit (.bool false)], args := [d1, d2, d3] }
  | _ => none }
def StackTakesWrongFalsely : Prop := stackTakesRow.holds Try.pinned (OpenSpec.ofChange stackTakesWrong)

/-- 'coatchecklaw06.StackMany': WHATEVER THE INPUT: true; the input reads as it did. -/
def stackManySpec : ChangeSpec := { name := "stackMany", fn := fun _ => fun
  | [d1, d2, d3] => { results := [.lit (.bool true)], args := [d1, d2, d3] }
  | _ => none }
def stackManyRow : OpenClaim := { program := "ytpnnnklahanecaa", sum := "1e414e802fb4f8605c6c1d32ce7b37b743d73bef2b7c2ef651d73801147dab90", func := "coatcheck/coatchecklaw06.StackMany", spec := "stackMany", unfollowed := true, recurses := true, plainKeys := false, apart := false }
def StackManySaid : Prop := stackManyRow.holds Try.pinned (OpenSpec.ofChange stackManySpec)

/-- ITS FALSE NEIGHBOUR: 'it returns false'. Refute it at one input. -/
def stackManyWrong : ChangeSpec := { name := "stackMany", fn := fun _ => fun
  | [d1, d2, d3] => { results := [.lit (.bool false)], args := [d1, d2, d3] }
  | _ => none }
def StackManyWrongFalsely : Prop := stackManyRow.holds Try.pinned (OpenSpec.ofChange stackManyWrong)

/-- 'coatchecklaw07.EpochSteps': WHATEVER THE INPUT: true; the input reads as it did. -/
def epochStepsSpec : ChangeSpec := { name := "epochSteps", fn := fun _ => fun
  | [d1, d2, d3, d4, d5, d6, d7] => { results := [.lit (.bool true)], args := [d1, d2, d3, d4, d5, d6, d7] }
  | _ => none }
def epochStepsRow : OpenClaim := { program := "ytpnnnklahanecaa", sum := "1e414e802fb4f8605c6c1d32ce7b37b743d73bef2b7c2ef651d73801147dab90", func := "coatcheck/coatchecklaw07.EpochSteps", spec := "epochSteps", unfollowed := true, recurses := true, plainKeys := false, apart := false }
def EpochStepsSaid : Prop := epochStepsRow.holds Try.pinned (OpenSpec.ofChange epochStepsSpec)

/-- ITS FALSE NEIGHBOUR: 'it returns false'. Refute it at one input. -/
def epochStepsWrong : ChangeSpec := { name := "epochSteps", fn := fun _ => fun
  | [d1, d2, d3, d4, d5, d6, d7] => { results := [.lit (.bool false)], args := [d1, d2, d3, d4, d5, d6, d7] }
  | _ => none }
def EpochStepsWrongFalsely : Prop := epochStepsRow.holds Try.pinned (OpenSpec.ofChange epochStepsWrong)

/-- 'coatchecklaw07.EpochHolds': WHATEVER THE INPUT: true; the input reads as it did. -/
def epochHoldsSpec : ChangeSpec := { name := "epochHolds", fn := fun _ => fun
  | [d1, d2] => { results := [.lit (.bool true)], args := [d1, d2] }
  | _ => none }
def epochHoldsRow : OpenClaim := { program := "ytpnnnklahanecaa", sum := "1e414e802fb4f8605c6c1d32ce7b37b743d73bef2b7c2ef651d73801147dab90", func := "coatcheck/coatchecklaw07.EpochHolds", spec := "epochHolds", unfollowed := true, recurses := true, plainKeys := false, apart := false }
def EpochHoldsSaid : Prop := epochHoldsRow.holds Try.pinned (OpenSpec.ofChange epochHoldsSpec)

/-- ITS FALSE NEIGHBOUR: 'it returns false'. Refute it at one input. -/
def epochHoldsWrong : ChangeSpec := { name := "epochHolds", fn := fun _ => fun
  | [d1, d2] => { results := [.lit (.bool false)], args := [d1, d2] }
  | _ => none }
def EpochHoldsWrongFalsely : Prop := epochHoldsRow.holds Try.pinned (OpenSpec.ofChange epochHoldsWrong)

/-- 'coatchecklaw06.StackLists': WHATEVER THE INPUT: true; the input reads as it did. -/
def stackListsSpec : ChangeSpec := { name := "stackLists", fn := fun _ => fun
  | [d1, d2, d3] => { results := [.lit (.bool true)], args := [d1, d2, d3] }
  | _ => none }
def stackListsRow : OpenClaim := { program := "ytpnnnklahanecaa", sum := "1e414e802fb4f8605c6c1d32ce7b37b743d73bef2b7c2ef651d73801147dab90", func := "coatcheck/coatchecklaw06.StackLists", spec := "stackLists", unfollowed := true, recurses := true, plainKeys := false, apart := false }
def StackListsSaid : Prop := stackListsRow.holds Try.pinned (OpenSpec.ofChange stackListsSpec)

/-- ITS FALSE NEIGHBOUR: 'it returns false'. Refute it at one input. -/
def stackListsWrong : ChangeSpec := { name := "stackLists", fn := fun _ => fun
  | [d1, d2, d3] => { results := [.lit (.bool false)], args := [d1, d2, d3] }
  | _ => none }
def StackListsWrongFalsely : Prop := stackListsRow.holds Try.pinned (OpenSpec.ofChange stackListsWrong)

/-- 'coatchecklaw07.EpochInside': WHATEVER THE INPUT: true; the input reads as it did. -/
def epochInsideSpec : ChangeSpec := { name := "epochInside", fn := fun _ => fun
  | [d1, d2, d3] => { results := [.lit (.bool true)], args := [d1, d2, d3] }
  | _ => none }
def epochInsideRow : OpenClaim := { program := "ytpnnnklahanecaa", sum := "1e414e802fb4f8605c6c1d32ce7b37b743d73bef2b7c2ef651d73801147dab90", func := "coatcheck/coatchecklaw07.EpochInside", spec := "epochInside", unfollowed := true, recurses := true, plainKeys := false, apart := false }
def EpochInsideSaid : Prop := epochInsideRow.holds Try.pinned (OpenSpec.ofChange epochInsideSpec)

/-- ITS FALSE NEIGHBOUR: 'it returns false'. Refute it at one input. -/
def epochInsideWrong : ChangeSpec := { name := "epochInside", fn := fun _ => fun
  | [d1, d2, d3] => { results := [.lit (.bool false)], args := [d1, d2, d3] }
  | _ => none }
def EpochInsideWrongFalsely : Prop := epochInsideRow.holds Try.pinned (OpenSpec.ofChange epochInsideWrong)

/-- 'coatchecklaw08.SlabSteps': WHATEVER THE INPUT: true; the input reads as it did. -/
def slabStepsSpec : ChangeSpec := { name := "slabSteps", fn := fun _ => fun
  | [d1, d2, d3, d4, d5] => { results := [.lit (.bool true)], args := [d1, d2, d3, d4, d5] }
  | _ => none }
def slabStepsRow : OpenClaim := { program := "ytpnnnklahanecaa", sum := "1e414e802fb4f8605c6c1d32ce7b37b743d73bef2b7c2ef651d73801147dab90", func := "coatcheck/coatchecklaw08.SlabSteps", spec := "slabSteps", unfollowed := true, recurses := true, plainKeys := false, apart := false }
def SlabStepsSaid : Prop := slabStepsRow.holds Try.pinned (OpenSpec.ofChange slabStepsSpec)

/-- ITS FALSE NEIGHBOUR: 'it returns false'. Refute it at one input. -/
def slabStepsWrong : ChangeSpec := { name := "slabSteps", fn := fun _ => fun
  | [d1, d2, d3, d4, d5] => { results := [.lit (.bool false)], args := [d1, d2, d3, d4, d5] }
  | _ => none }
def SlabStepsWrongFalsely : Prop := slabStepsRow.holds Try.pinned (OpenSpec.ofChange slabStepsWrong)

/- THE SECOND FORM. 'bulk': how many values and letters a reading holds, each counted each time it is reached (what is shared counts as often as it is met; a slice's spare places count too). A statement '..UptoSaid' is the law's where the arguments, and the package variables that the reading takes, are together of bulk at most 1048576: NARROWER than '..Said'. Prove '..Said' where nothing that the law and all that it calls make is longer than what came in: it says more and counts as full. Else prove '..UptoSaid'. A law counts once. -/
mutual
def uptoBulk {H : Type} : DataW H → Nat
  | .lit (.string bytes) => bytes.length + 1
  | .lit _ => 1
  | .nil => 1
  | .ptr d => uptoBulk d + 1
  | .slice elems spare => uptoBulkAll elems + uptoBulkAll spare + 1
  | .agg parts => uptoBulkAll parts + 1
  | .iface _ d => uptoBulk d + 1
  | .map entries => uptoBulkEntries entries + 1
  | .held _ => 1
def uptoBulkAll {H : Type} : List (DataW H) → Nat
  | [] => 0
  | d :: r => uptoBulk d + uptoBulkAll r
def uptoBulkEntries {H : Type} : List (Lit × DataW H) → Nat
  | [] => 0
  | x :: r => uptoBulkEntry x + uptoBulkEntries r
def uptoBulkEntry {H : Type} : Lit × DataW H → Nat
  | (.string bytes, d) => bytes.length + uptoBulk d + 1
  | (_, d) => uptoBulk d + 1
 end
def uptoSmall : (H : Type) → List (DataW H) → Bool := fun _ ds => decide (uptoBulkAll ds ≤ 1048576)
def OpenSpec.upto (s : _root_.Go.ChangeSpec) : _root_.Go.OpenSpec := { _root_.Go.OpenSpec.ofChange s with cond := some uptoSmall }

/-- 'coatchecklaw03.MemoryPlays', WHERE WHAT IT READS IS OF BULK AT MOST 1048576: true; the input reads as it did. -/
def memoryPlaysUptoRow : OpenClaim := { program := "ytpnnnklahanecaa", sum := "1e414e802fb4f8605c6c1d32ce7b37b743d73bef2b7c2ef651d73801147dab90", func := "coatcheck/coatchecklaw03.MemoryPlays", spec := "memoryPlays", plainKeys := false, apart := false, narrowed := true }
def MemoryPlaysUptoSaid : Prop := memoryPlaysUptoRow.holds Try.pinned (OpenSpec.upto memoryPlaysSpec)

/-- 'coatchecklaw03.MemoryFirst', WHERE WHAT IT READS IS OF BULK AT MOST 1048576: true; the input reads as it did. -/
def memoryFirstUptoRow : OpenClaim := { program := "ytpnnnklahanecaa", sum := "1e414e802fb4f8605c6c1d32ce7b37b743d73bef2b7c2ef651d73801147dab90", func := "coatcheck/coatchecklaw03.MemoryFirst", spec := "memoryFirst", plainKeys := false, apart := false, narrowed := true }
def MemoryFirstUptoSaid : Prop := memoryFirstUptoRow.holds Try.pinned (OpenSpec.upto memoryFirstSpec)

/-- 'coatchecklaw16.OrderKeeps', WHERE WHAT IT READS IS OF BULK AT MOST 1048576: true; the input reads as it did. -/
def orderKeepsUptoRow : OpenClaim := { program := "ytpnnnklahanecaa", sum := "1e414e802fb4f8605c6c1d32ce7b37b743d73bef2b7c2ef651d73801147dab90", func := "coatcheck/coatchecklaw16.OrderKeeps", spec := "orderKeeps", unfollowed := true, recurses := true, plainKeys := false, apart := false, narrowed := true }
def OrderKeepsUptoSaid : Prop := orderKeepsUptoRow.holds Try.pinned (OpenSpec.upto orderKeepsSpec)

/-- 'coatchecklaw16.OrderApart', WHERE WHAT IT READS IS OF BULK AT MOST 1048576: true; the input reads as it did. -/
def orderApartUptoRow : OpenClaim := { program := "ytpnnnklahanecaa", sum := "1e414e802fb4f8605c6c1d32ce7b37b743d73bef2b7c2ef651d73801147dab90", func := "coatcheck/coatchecklaw16.OrderApart", spec := "orderApart", unfollowed := true, recurses := true, plainKeys := false, apart := false, narrowed := true }
def OrderApartUptoSaid : Prop := orderApartUptoRow.holds Try.pinned (OpenSpec.upto orderApartSpec)

/-- 'coatchecklaw06.StackSteps', WHERE WHAT IT READS IS OF BULK AT MOST 1048576: true; the input reads as it did. -/
def stackStepsUptoRow : OpenClaim := { program := "ytpnnnklahanecaa", sum := "1e414e802fb4f8605c6c1d32ce7b37b743d73bef2b7c2ef651d73801147dab90", func := "coatcheck/coatchecklaw06.StackSteps", spec := "stackSteps", unfollowed := true, recurses := true, plainKeys := false, apart := false, narrowed := true }
def StackStepsUptoSaid : Prop := stackStepsUptoRow.holds Try.pinned (OpenSpec.upto stackStepsSpec)

/-- 'coatchecklaw06.StackTakes', WHERE WHAT IT READS IS OF BULK AT MOST 1048576: true; the input reads as it did. -/
def stackTakesUptoRow : OpenClaim := { program := "ytpnnnklahanecaa", sum := "1e414e802fb4f8605c6c1d32ce7b37b743d73bef2b7c2ef651d73801147dab90", func := "coatcheck/coatchecklaw06.StackTakes", spec := "stackTakes", unfollowed := true, recurses := true, plainKeys := false, apart := false, narrowed := true }
def StackTakesUptoSaid : Prop := stackTakesUptoRow.holds Try.pinned (OpenSpec.upto stackTakesSpec)

/-- 'coatchecklaw06.StackMany', WHERE WHAT IT READS IS OF BULK AT MOST 1048576: true; the input reads as it did. -/
def stackManyUptoRow : OpenClaim := { program := "ytpnnnklahanecaa", sum := "1e414e802fb4f8605c6c1d32ce7b37b743d73bef2b7c2ef651d73801147dab90", func := "coatcheck/coatchecklaw06.StackMany", spec := "stackMany", unfollowed := true, recurses := true, plainKeys := false, apart := false, narrowed := true }
def StackManyUptoSaid : Prop := stackManyUptoRow.holds Try.pinned (OpenSpec.upto stackManySpec)

/-- 'coatchecklaw07.EpochSteps', WHERE WHAT IT READS IS OF BULK AT MOST 1048576: true; the input reads as it did. -/
def epochStepsUptoRow : OpenClaim := { program := "ytpnnnklahanecaa", sum := "1e414e802fb4f8605c6c1d32ce7b37b743d73bef2b7c2ef651d73801147dab90", func := "coatcheck/coatchecklaw07.EpochSteps", spec := "epochSteps", unfollowed := true, recurses := true, plainKeys := false, apart := false, narrowed := true }
def EpochStepsUptoSaid : Prop := epochStepsUptoRow.holds Try.pinned (OpenSpec.upto epochStepsSpec)

/-- 'coatchecklaw07.EpochHolds', WHERE WHAT IT READS IS OF BULK AT MOST 1048576: true; the input reads as it did. -/
def epochHoldsUptoRow : OpenClaim := { program := "ytpnnnklahanecaa", sum := "1e414e802fb4f8605c6c1d32ce7b37b743d73bef2b7c2ef651d73801147dab90", func := "coatcheck/coatchecklaw07.EpochHolds", spec := "epochHolds", unfollowed := true, recurses := true, plainKeys := false, apart := false, narrowed := true }
def EpochHoldsUptoSaid : Prop := epochHoldsUptoRow.holds Try.pinned (OpenSpec.upto epochHoldsSpec)

/-- 'coatchecklaw06.StackLists', WHERE WHAT IT READS IS OF BULK AT MOST 1048576: true; the input reads as it did. -/
def stackListsUptoRow : OpenClaim := { program := "ytpnnnklahanecaa", sum := "1e414e802fb4f8605c6c1d32ce7b37b743d73bef2b7c2ef651d73801147dab90", func := "coatcheck/coatchecklaw06.StackLists", spec := "stackLists", unfollowed := true, recurses := true, plainKeys := false, apart := false, narrowed := true }
def StackListsUptoSaid : Prop := stackListsUptoRow.holds Try.pinned (OpenSpec.upto stackListsSpec)

/-- 'coatchecklaw07.EpochInside', WHERE WHAT IT READS IS OF BULK AT MOST 1048576: true; the input reads as it did. -/
def epochInsideUptoRow : OpenClaim := { program := "ytpnnnklahanecaa", sum := "1e414e802fb4f8605c6c1d32ce7b37b743d73bef2b7c2ef651d73801147dab90", func := "coatcheck/coatchecklaw07.EpochInside", spec := "epochInside", unfollowed := true, recurses := true, plainKeys := false, apart := false, narrowed := true }
def EpochInsideUptoSaid : Prop := epochInsideUptoRow.holds Try.pinned (OpenSpec.upto epochInsideSpec)

/-- 'coatchecklaw08.SlabSteps', WHERE WHAT IT READS IS OF BULK AT MOST 1048576: true; the input reads as it did. -/
def slabStepsUptoRow : OpenClaim := { program := "ytpnnnklahanecaa", sum := "1e414e802fb4f8605c6c1d32ce7b37b743d73bef2b7c2ef651d73801147dab90", func := "coatcheck/coatchecklaw08.SlabSteps", spec := "slabSteps", unfollowed := true, recurses := true, plainKeys := false, apart := false, narrowed := true }
def SlabStepsUptoSaid : Prop := slabStepsUptoRow.holds Try.pinned (OpenSpec.upto slabStepsSpec)

end Rows
end Go.Proofs.Ytpnnnklahanecaa
