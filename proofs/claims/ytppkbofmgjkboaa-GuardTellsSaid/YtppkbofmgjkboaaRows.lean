/-
  No cell of these rows narrows 'for every input' (looked for: loops, veiled, ifaces, maps, wideKeys, modest, calm, conditions, laid).
  DERIVED. THE GIVEN ROWS OF THIS SEAT. 5 by the template 'for every input the law returns true; each argument reads behind the call as it read before'; 0 by the template 'total and deterministic' (their statements: YtppkbofmgjkboaaTotals.lean).
  GIVEN WITH THE SEED: the statements are not yours to turn. If you find one false, say at which input.
  Laid BY PROGRAM, IN A SANDBOX (cutbox-rows.mjs): the forced cells as the released guide's own fill.sh prints them over the translation 407550195a57e6f0… (all of the seat's roots in one cut). By AI agents, Wed Nov 11 2026. No macro, syntax, notation, axiom, sorry.
-/
import Derived.Test.YtppkbofmgjkboaaChecked
import GoSem.Claim
import GoSem.ClaimJoined
import GoSem.ClaimMapViews
import Derived.JoinedTies
import Derived.KernelRfl
namespace Go.Proofs.Ytppkbofmgjkboaa
/- THE CELL 'sum', in the pinned program and in every row, IS THE sha256 OF THE DUMP (.gsa) THAT YtppkbofmgjkboaaProg.lean LOADS. Nothing in Lean hashes anything: it is a label: what it is worth is what the hold of that sum in a sandbox is worth. -/
noncomputable def Try.pinned : Pinned := { name := "ytppkbofmgjkboaa", sum := "407550195a57e6f0709ad2609f624720affbea9d05313e1639f56c25e54853b5", checked := Try.checked }
namespace Rows
def none {H : Type} : Left H := { results := [], args := [] }

/-- 'coatchecklaw16.OrderKeeps': WHATEVER THE INPUT: true; the input reads as it did. -/
def orderKeepsSpec : ChangeSpec := { name := "orderKeeps", fn := fun _ => fun
  | [d] => { results := [.lit (.bool true)], args := [d] }
  | _ => none }
def orderKeepsRow : OpenClaim := { program := "ytppkbofmgjkboaa", sum := "407550195a57e6f0709ad2609f624720affbea9d05313e1639f56c25e54853b5", func := "coatcheck/coatchecklaw16.OrderKeeps", spec := "orderKeeps", unfollowed := true, recurses := true, plainKeys := false, apart := false }
def OrderKeepsSaid : Prop := orderKeepsRow.holds Try.pinned (OpenSpec.ofChange orderKeepsSpec)

/-- ITS FALSE NEIGHBOUR: 'it returns false'. Refute it at one input. -/
def orderKeepsWrong : ChangeSpec := { name := "orderKeeps", fn := fun _ => fun
  | [d] => { results := [.lit (.bool false)], args := [d] }
  | _ => none }
def OrderKeepsWrongFalsely : Prop := orderKeepsRow.holds Try.pinned (OpenSpec.ofChange orderKeepsWrong)

/-- 'coatchecklaw16.OrderApart': WHATEVER THE INPUT: true; the input reads as it did. -/
def orderApartSpec : ChangeSpec := { name := "orderApart", fn := fun _ => fun
  | [d] => { results := [.lit (.bool true)], args := [d] }
  | _ => none }
def orderApartRow : OpenClaim := { program := "ytppkbofmgjkboaa", sum := "407550195a57e6f0709ad2609f624720affbea9d05313e1639f56c25e54853b5", func := "coatcheck/coatchecklaw16.OrderApart", spec := "orderApart", unfollowed := true, recurses := true, plainKeys := false, apart := false }
def OrderApartSaid : Prop := orderApartRow.holds Try.pinned (OpenSpec.ofChange orderApartSpec)

/-- ITS FALSE NEIGHBOUR: 'it returns false'. Refute it at one input. -/
def orderApartWrong : ChangeSpec := { name := "orderApart", fn := fun _ => fun
  | [d] => { results := [.lit (.bool false)], args := [d] }
  | _ => none }
def OrderApartWrongFalsely : Prop := orderApartRow.holds Try.pinned (OpenSpec.ofChange orderApartWrong)

/-- 'coatchecklaw17.PlaceTells': WHATEVER THE INPUT: true; the input reads as it did. -/
def placeTellsSpec : ChangeSpec := { name := "placeTells", fn := fun _ => fun
  | [d1, d2, d3, d4] => { results := [.lit (.bool true)], args := [d1, d2, d3, d4] }
  | _ => none }
def placeTellsRow : OpenClaim := { program := "ytppkbofmgjkboaa", sum := "407550195a57e6f0709ad2609f624720affbea9d05313e1639f56c25e54853b5", func := "coatcheck/coatchecklaw17.PlaceTells", spec := "placeTells", unfollowed := true, recurses := true, plainKeys := false, apart := false }
def PlaceTellsSaid : Prop := placeTellsRow.holds Try.pinned (OpenSpec.ofChange placeTellsSpec)

/-- ITS FALSE NEIGHBOUR: 'it returns false'. Refute it at one input. -/
def placeTellsWrong : ChangeSpec := { name := "placeTells", fn := fun _ => fun
  | [d1, d2, d3, d4] => { results := [.lit (.bool false)], args := [d1, d2, d3, d4] }
  | _ => none }
def PlaceTellsWrongFalsely : Prop := placeTellsRow.holds Try.pinned (OpenSpec.ofChange placeTellsWrong)

/-- 'coatchecklaw18.GuardPayload': WHATEVER THE INPUT: true; the input reads as it did. -/
def guardPayloadSpec : ChangeSpec := { name := "guardPayload", fn := fun _ => fun
  | [d1, d2] => { results := [.lit (.bool true)], args := [d1, d2] }
  | _ => none }
def guardPayloadRow : OpenClaim := { program := "ytppkbofmgjkboaa", sum := "407550195a57e6f0709ad2609f624720affbea9d05313e1639f56c25e54853b5", func := "coatcheck/coatchecklaw18.GuardPayload", spec := "guardPayload", recurses := true, plainKeys := false, apart := false }
def GuardPayloadSaid : Prop := guardPayloadRow.holds Try.pinned (OpenSpec.ofChange guardPayloadSpec)

/-- ITS FALSE NEIGHBOUR: 'it returns false'. Refute it at one input. -/
def guardPayloadWrong : ChangeSpec := { name := "guardPayload", fn := fun _ => fun
  | [d1, d2] => { results := [.lit (.bool false)], args := [d1, d2] }
  | _ => none }
def GuardPayloadWrongFalsely : Prop := guardPayloadRow.holds Try.pinned (OpenSpec.ofChange guardPayloadWrong)

/-- 'coatchecklaw18.GuardTells': WHATEVER THE INPUT: true; the input reads as it did. -/
def guardTellsSpec : ChangeSpec := { name := "guardTells", fn := fun _ => fun
  | [d1, d2, d3] => { results := [.lit (.bool true)], args := [d1, d2, d3] }
  | _ => none }
def guardTellsRow : OpenClaim := { program := "ytppkbofmgjkboaa", sum := "407550195a57e6f0709ad2609f624720affbea9d05313e1639f56c25e54853b5", func := "coatcheck/coatchecklaw18.GuardTells", spec := "guardTells", recurses := true, plainKeys := false, apart := false }
def GuardTellsSaid : Prop := guardTellsRow.holds Try.pinned (OpenSpec.ofChange guardTellsSpec)

/-- ITS FALSE NEIGHBOUR: 'it returns false'. Refute it at one input. -/
def guardTellsWrong : ChangeSpec := { name := "guardTells", fn := fun _ => fun
  | [d1, d2, d3] => { results := [.lit (.bool false)], args := [d1, d2, d3] }
  | _ => none }
def GuardTellsWrongFalsely : Prop := guardTellsRow.holds Try.pinned (OpenSpec.ofChange guardTellsWrong)

/- THE SECOND FORM. 'bulk': how many values and letters a reading holds, each counted each time it is reached (what is shared counts as often as it is met; a slice's spare places count too). A statement '..UptoSaid' is the law's where the arguments, and the package variables that the reading takes, are together of bulk at most 1048576: NARROWER than '..Said'. Prove '..Said' where nothing that the law and all that it calls make is longer than what came in: it says more and counts as full. Else prove '..UptoSaid'. A law counts once. -/
mutual
def uptoBulk {H : Type} : DataW H → Nat
  | .lit (.string bytes) => bytes.length + 1
  | .lit _ => 1
  | .nil => 1
  | .ptr d => uptoBulk d + 1
  | .slice elems spare => uptoBulkAll elems + uptoBulkAll spare + 1
  | .agg parts => uptoBulkAll parts + 1
  | .iface _ d => uptoBulk d + 1
  | .map entries => uptoBulkEntries entries + 1
  | .held _ => 1
def uptoBulkAll {H : Type} : List (DataW H) → Nat
  | [] => 0
  | d :: r => uptoBulk d + uptoBulkAll r
def uptoBulkEntries {H : Type} : List (Lit × DataW H) → Nat
  | [] => 0
  | x :: r => uptoBulkEntry x + uptoBulkEntries r
def uptoBulkEntry {H : Type} : Lit × DataW H → Nat
  | (.string bytes, d) => bytes.length + uptoBulk d + 1
  | (_, d) => uptoBulk d + 1
 end
def uptoSmall : (H : Type) → List (DataW H) → Bool := fun _ ds => decide (uptoBulkAll ds ≤ 1048576)
def OpenSpec.upto (s : _root_.Go.ChangeSpec) : _root_.Go.OpenSpec := { _root_.Go.OpenSpec.ofChange s with cond := some uptoSmall }

/-- 'coatchecklaw16.OrderKeeps', WHERE WHAT IT READS IS OF BULK AT MOST 1048576: true; the input reads as it did. -/
def orderKeepsUptoRow : OpenClaim := { program := "ytppkbofmgjkboaa", sum := "407550195a57e6f0709ad2609f624720affbea9d05313e1639f56c25e54853b5", func := "coatcheck/coatchecklaw16.OrderKeeps", spec := "orderKeeps", unfollowed := true, recurses := true, plainKeys := false, apart := false, narrowed := true }
def OrderKeepsUptoSaid : Prop := orderKeepsUptoRow.holds Try.pinned (OpenSpec.upto orderKeepsSpec)

/-- 'coatchecklaw16.OrderApart', WHERE WHAT IT READS IS OF BULK AT MOST 1048576: true; the input reads as it did. -/
def orderApartUptoRow : OpenClaim := { program := "ytppkbofmgjkboaa", sum := "407550195a57e6f0709ad2609f624720affbea9d05313e1639f56c25e54853b5", func := "coatcheck/coatchecklaw16.OrderApart", spec := "orderApart", unfollowed := true, recurses := true, plainKeys := false, apart := false, narrowed := true }
def OrderApartUptoSaid : Prop := orderApartUptoRow.holds Try.pinned (OpenSpec.upto orderApartSpec)

/-- 'coatchecklaw17.PlaceTells', WHERE WHAT IT READS IS OF BULK AT MOST 1048576: true; the input reads as it did. -/
def placeTellsUptoRow : OpenClaim := { program := "ytppkbofmgjkboaa", sum := "407550195a57e6f0709ad2609f624720affbea9d05313e1639f56c25e54853b5", func := "coatcheck/coatchecklaw17.PlaceTells", spec := "placeTells", unfollowed := true, recurses := true, plainKeys := false, apart := false, narrowed := true }
def PlaceTellsUptoSaid : Prop := placeTellsUptoRow.holds Try.pinned (OpenSpec.upto placeTellsSpec)

/-- 'coatchecklaw18.GuardPayload', WHERE WHAT IT READS IS OF BULK AT MOST 1048576: true; the input reads as it did. -/
def guardPayloadUptoRow : OpenClaim := { program := "ytppkbofmgjkboaa", sum := "407550195a57e6f0709ad2609f624720affbea9d05313e1639f56c25e54853b5", func := "coatcheck/coatchecklaw18.GuardPayload", spec := "guardPayload", recurses := true, plainKeys := false, apart := false, narrowed := true }
def GuardPayloadUptoSaid : Prop := guardPayloadUptoRow.holds Try.pinned (OpenSpec.upto guardPayloadSpec)

/-- 'coatchecklaw18.GuardTells', WHERE WHAT IT READS IS OF BULK AT MOST 1048576: true; the input reads as it did. -/
def guardTellsUptoRow : OpenClaim := { program := "ytppkbofmgjkboaa", sum := "407550195a57e6f0709ad2609f624720affbea9d05313e1639f56c25e54853b5", func := "coatcheck/coatchecklaw18.GuardTells", spec := "guardTells", recurses := true, plainKeys := false, apart := false, narrowed := true }
def GuardTellsUptoSaid : Prop := guardTellsUptoRow.holds Try.pinned (OpenSpec.upto guardTellsSpec)

end Rows
end Go.Proofs.Ytppkbofmgjkboaa
