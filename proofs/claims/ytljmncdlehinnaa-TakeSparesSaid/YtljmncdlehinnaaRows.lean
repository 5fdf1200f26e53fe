/-
  No cell of these rows narrows 'for every input' (looked for: loops, veiled, ifaces, maps, wideKeys, modest, calm, conditions, laid).
  DERIVED. THE GIVEN ROWS OF THIS SEAT. 8 by the template 'for every input the law returns true; each argument reads behind the call as it read before'; 0 by the template 'total and deterministic' (their statements: YtljmncdlehinnaaTotals.lean).
  GIVEN WITH THE SEED: the statements are not yours to turn. If you find one false, say at which input.
  Laid BY PROGRAM, IN A SANDBOX (cutbox-rows.mjs): the forced cells as the released guide's own fill.sh prints them over the translation df455e4c4dfa46ad… (all of the seat's roots in one cut). By AI agents, Wed Nov 11 2026. No macro, syntax, notation, axiom, sorry.
-/
import Derived.Test.YtljmncdlehinnaaChecked
import GoSem.Claim
import GoSem.ClaimJoined
import GoSem.ClaimMapViews
import Derived.JoinedTies
import Derived.KernelRfl
namespace Go.Proofs.Ytljmncdlehinnaa
/- THE CELL 'sum', in the pinned program and in every row, IS THE sha256 OF THE DUMP (.gsa) THAT YtljmncdlehinnaaProg.lean LOADS. Nothing in Lean hashes anything: it is a label: what it is worth is what the hold of that sum in a sandbox is worth. -/
noncomputable def Try.pinned : Pinned := { name := "ytljmncdlehinnaa", sum := "df455e4c4dfa46ad1fe479439e49e9a9f12b24ea31c3b978d9bf1737aaf9d341", checked := Try.checked }
namespace Rows
def none {H : Type} : Left H := { results := [], args := [] }

/-- 'coatchecklaw08.SlabClaims': WHATEVER THE INPUT: true; the input reads as it did. -/
def slabClaimsSpec : ChangeSpec := { name := "slabClaims", fn := fun _ => fun
  | [d1, d2, d3, d4] => { results := [.lit (.bool true)], args := [d1, d2, d3, d4] }
  | _ => none }
def slabClaimsRow : OpenClaim := { program := "ytljmncdlehinnaa", sum := "df455e4c4dfa46ad1fe479439e49e9a9f12b24ea31c3b978d9bf1737aaf9d341", func := "coatcheck/coatchecklaw08.SlabClaims", spec := "slabClaims", unfollowed := true, recurses := true, apart := false }
def SlabClaimsSaid : Prop := slabClaimsRow.holds Try.pinned (OpenSpec.ofChange slabClaimsSpec)

/-- ITS FALSE NEIGHBOUR: 'it returns false'. Refute it at one input. -/
def slabClaimsWrong : ChangeSpec := { name := "slabClaims", fn := fun _ => fun
  | [d1, d2, d3, d4] => { results := [.lit (.bool false)], args := [d1, d2, d3, d4] }
  | _ => none }
def SlabClaimsWrongFalsely : Prop := slabClaimsRow.holds Try.pinned (OpenSpec.ofChange slabClaimsWrong)

/-- 'coatchecklaw08.SlabTells': WHATEVER THE INPUT: true; the input reads as it did. -/
def slabTellsSpec : ChangeSpec := { name := "slabTells", fn := fun _ => fun
  | [d1, d2, d3, d4, d5] => { results := [.lit (.bool true)], args := [d1, d2, d3, d4, d5] }
  | _ => none }
def slabTellsRow : OpenClaim := { program := "ytljmncdlehinnaa", sum := "df455e4c4dfa46ad1fe479439e49e9a9f12b24ea31c3b978d9bf1737aaf9d341", func := "coatcheck/coatchecklaw08.SlabTells", spec := "slabTells", unfollowed := true, recurses := true, apart := false }
def SlabTellsSaid : Prop := slabTellsRow.holds Try.pinned (OpenSpec.ofChange slabTellsSpec)

/-- ITS FALSE NEIGHBOUR: 'it returns false'. Refute it at one input. -/
def slabTellsWrong : ChangeSpec := { name := "slabTells", fn := fun _ => fun
  | [d1, d2, d3, d4, d5] => { results := [.lit (.bool false)], args := [d1, d2, d3, d4, d5] }
  | _ => none }
def SlabTellsWrongFalsely : Prop := slabTellsRow.holds Try.pinned (OpenSpec.ofChange slabTellsWrong)

/-- 'coatchecklaw11.EntrySteps': WHATEVER THE INPUT: true; the input reads as it did. -/
def entryStepsSpec : ChangeSpec := { name := "entrySteps", fn := fun _ => fun
  | [d1, d2, d3, d4, d5] => { results := [.lit (.bool true)], args := [d1, d2, d3, d4, d5] }
  | _ => none }
def entryStepsRow : OpenClaim := { program := "ytljmncdlehinnaa", sum := "df455e4c4dfa46ad1fe479439e49e9a9f12b24ea31c3b978d9bf1737aaf9d341", func := "coatcheck/coatchecklaw11.EntrySteps", spec := "entrySteps", unfollowed := true, recurses := true, apart := false }
def EntryStepsSaid : Prop := entryStepsRow.holds Try.pinned (OpenSpec.ofChange entryStepsSpec)

/-- ITS FALSE NEIGHBOUR: 'it returns false'. Refute it at one input. -/
def entryStepsWrong : ChangeSpec := { name := "entrySteps", fn := fun _ => fun
  | [d1, d2, d3, d4, d5] => { results := [.lit (.bool false)], args := [d1, d2, d3, d4, d5] }
  | _ => none }
def EntryStepsWrongFalsely : Prop := entryStepsRow.holds Try.pinned (OpenSpec.ofChange entryStepsWrong)

/-- 'coatchecklaw11.EntryLives': WHATEVER THE INPUT: true; the input reads as it did. -/
def entryLivesSpec : ChangeSpec := { name := "entryLives", fn := fun _ => fun
  | [d1, d2, d3] => { results := [.lit (.bool true)], args := [d1, d2, d3] }
  | _ => none }
def entryLivesRow : OpenClaim := { program := "ytljmncdlehinnaa", sum := "df455e4c4dfa46ad1fe479439e49e9a9f12b24ea31c3b978d9bf1737aaf9d341", func := "coatcheck/coatchecklaw11.EntryLives", spec := "entryLives", unfollowed := true, recurses := true, apart := false }
def EntryLivesSaid : Prop := entryLivesRow.holds Try.pinned (OpenSpec.ofChange entryLivesSpec)

/-- ITS FALSE NEIGHBOUR: 'it returns false'. Refute it at one input. -/
def entryLivesWrong : ChangeSpec := { name := "entryLives", fn := fun _ => fun
  | [d1, d2, d3] => { results := [.lit (.bool false)], args := [d1, d2, d3] }
  | _ => none }
def EntryLivesWrongFalsely : Prop := entryLivesRow.holds Try.pinned (OpenSpec.ofChange entryLivesWrong)

/-- 'coatchecklaw11.EntryKills': WHATEVER THE INPUT: true; the input reads as it did. -/
def entryKillsSpec : ChangeSpec := { name := "entryKills", fn := fun _ => fun
  | [d1, d2, d3] => { results := [.lit (.bool true)], args := [d1, d2, d3] }
  | _ => none }
def entryKillsRow : OpenClaim := { program := "ytljmncdlehinnaa", sum := "df455e4c4dfa46ad1fe479439e49e9a9f12b24ea31c3b978d9bf1737aaf9d341", func := "coatcheck/coatchecklaw11.EntryKills", spec := "entryKills", unfollowed := true, recurses := true, apart := false }
def EntryKillsSaid : Prop := entryKillsRow.holds Try.pinned (OpenSpec.ofChange entryKillsSpec)

/-- ITS FALSE NEIGHBOUR: 'it returns false'. Refute it at one input. -/
def entryKillsWrong : ChangeSpec := { name := "entryKills", fn := fun _ => fun
  | [d1, d2, d3] => { results := [.lit (.bool false)], args := [d1, d2, d3] }
  | _ => none }
def EntryKillsWrongFalsely : Prop := entryKillsRow.holds Try.pinned (OpenSpec.ofChange entryKillsWrong)

/-- 'coatchecklaw11.EntryChanges': WHATEVER THE INPUT: true; the input reads as it did. -/
def entryChangesSpec : ChangeSpec := { name := "entryChanges", fn := fun _ => fun
  | [d1, d2, d3, d4] => { results := [.lit (.bool true)], args := [d1, d2, d3, d4] }
  | _ => none }
def entryChangesRow : OpenClaim := { program := "ytljmncdlehinnaa", sum := "df455e4c4dfa46ad1fe479439e49e9a9f12b24ea31c3b978d9bf1737aaf9d341", func := "coatcheck/coatchecklaw11.EntryChanges", spec := "entryChanges", unfollowed := true, recurses := true, apart := false }
def EntryChangesSaid : Prop := entryChangesRow.holds Try.pinned (OpenSpec.ofChange entryChangesSpec)

/-- ITS FALSE NEIGHBOUR: 'it returns false'. Refute it at one input. -/
def entryChangesWrong : ChangeSpec := { name := "entryChanges", fn := fun _ => fun
  | [d1, d2, d3, d4] => { results := [.lit (.bool false)], args := [d1, d2, d3, d4] }
  | _ => none }
def EntryChangesWrongFalsely : Prop := entryChangesRow.holds Try.pinned (OpenSpec.ofChange entryChangesWrong)

/-- 'coatchecklaw10.GiveAlone': WHATEVER THE INPUT: true; the input reads as it did. -/
def giveAloneSpec : ChangeSpec := { name := "giveAlone", fn := fun _ => fun
  | [d1, d2, d3] => { results := [.lit (.bool true)], args := [d1, d2, d3] }
  | _ => none }
def giveAloneRow : OpenClaim := { program := "ytljmncdlehinnaa", sum := "df455e4c4dfa46ad1fe479439e49e9a9f12b24ea31c3b978d9bf1737aaf9d341", func := "coatcheck/coatchecklaw10.GiveAlone", spec := "giveAlone", unfollowed := true, recurses := true, apart := false }
def GiveAloneSaid : Prop := giveAloneRow.holds Try.pinned (OpenSpec.ofChange giveAloneSpec)

/-- ITS FALSE NEIGHBOUR: 'it returns false'. Refute it at one input. -/
def giveAloneWrong : ChangeSpec := { name := "giveAlone", fn := fun _ => fun
  | [d1, d2, d3] => { results := [.lit (.bool false)], args := [d1, d2, d3] }
  | _ => none }
def GiveAloneWrongFalsely : Prop := giveAloneRow.holds Try.pinned (OpenSpec.ofChange giveAloneWrong)

/-- 'coatchecklaw09.TakeSpares': WHATEVER THE INPUT: true; the input reads as it did. -/
def takeSparesSpec : ChangeSpec := { name := "takeSpares", fn := fun _ => fun
  | [d1, d2, d3] => { results := [.lit (.bool true)], args := [d1, d2, d3] }
  | _ => none }
def takeSparesRow : OpenClaim := { program := "ytljmncdlehinnaa", sum := "df455e4c4dfa46ad1fe479439e49e9a9f12b24ea31c3b978d9bf1737aaf9d341", func := "coatcheck/coatchecklaw09.TakeSpares", spec := "takeSpares", unfollowed := true, recurses := true, apart := false }
def TakeSparesSaid : Prop := takeSparesRow.holds Try.pinned (OpenSpec.ofChange takeSparesSpec)

/-- ITS FALSE NEIGHBOUR: 'it returns false'. Refute it at one input. -/
def takeSparesWrong : ChangeSpec := { name := "takeSpares", fn := fun _ => fun
  | [d1, d2, d3] => { results := [.lit (.bool false)], args := [d1, d2, d3] }
  | _ => none }
def TakeSparesWrongFalsely : Prop := takeSparesRow.holds Try.pinned (OpenSpec.ofChange takeSparesWrong)

/- THE SECOND FORM. 'bulk': how many values and letters a reading holds, each counted each time it is reached (what is shared counts as often as it is met; a slice's spare places count too). A statement '..UptoSaid' is the law's where the arguments, and the package variables that the reading takes, are together of bulk at most 1048576: NARROWER than '..Said'. Prove '..Said' where nothing that the law and all that it calls make is longer than what came in: it says more and counts as full. Else prove '..UptoSaid'. A law counts once. -/
mutual
def uptoBulk {H : Type} : DataW H → Nat
  | .lit (.string bytes) => bytes.length + 1
  | .lit _ => 1
  | .nil => 1
  | .ptr d => uptoBulk d + 1
  | .slice elems spare => uptoBulkAll elems + uptoBulkAll spare + 1
  | .agg parts => uptoBulkAll parts + 1
  | .iface _ d => uptoBulk d + 1
  | .map entries => uptoBulkEntries entries + 1
  | .held _ => 1
def uptoBulkAll {H : Type} : List (DataW H) → Nat
  | [] => 0
  | d :: r => uptoBulk d + uptoBulkAll r
def uptoBulkEntries {H : Type} : List (Lit × DataW H) → Nat
  | [] => 0
  | x :: r => uptoBulkEntry x + uptoBulkEntries r
def uptoBulkEntry {H : Type} : Lit × DataW H → Nat
  | (.string bytes, d) => bytes.length + uptoBulk d + 1
  | (_, d) => uptoBulk d + 1
 end
def uptoSmall : (H : Type) → List (DataW H) → Bool := fun _ ds => decide (uptoBulkAll ds ≤ 1048576)
def OpenSpec.upto (s : _root_.Go.ChangeSpec) : _root_.Go.OpenSpec := { _root_.Go.OpenSpec.ofChange s with cond := some uptoSmall }

/-- 'coatchecklaw08.SlabClaims', WHERE WHAT IT READS IS OF BULK AT MOST 1048576: true; the input reads as it did. -/
def slabClaimsUptoRow : OpenClaim := { program := "ytljmncdlehinnaa", sum := "df455e4c4dfa46ad1fe479439e49e9a9f12b24ea31c3b978d9bf1737aaf9d341", func := "coatcheck/coatchecklaw08.SlabClaims", spec := "slabClaims", unfollowed := true, recurses := true, apart := false, narrowed := true }
def SlabClaimsUptoSaid : Prop := slabClaimsUptoRow.holds Try.pinned (OpenSpec.upto slabClaimsSpec)

/-- 'coatchecklaw08.SlabTells', WHERE WHAT IT READS IS OF BULK AT MOST 1048576: true; the input reads as it did. -/
def slabTellsUptoRow : OpenClaim := { program := "ytljmncdlehinnaa", sum := "df455e4c4dfa46ad1fe479439e49e9a9f12b24ea31c3b978d9bf1737aaf9d341", func := "coatcheck/coatchecklaw08.SlabTells", spec := "slabTells", unfollowed := true, recurses := true, apart := false, narrowed := true }
def SlabTellsUptoSaid : Prop := slabTellsUptoRow.holds Try.pinned (OpenSpec.upto slabTellsSpec)

/-- 'coatchecklaw11.EntrySteps', WHERE WHAT IT READS IS OF BULK AT MOST 1048576: true; the input reads as it did. -/
def entryStepsUptoRow : OpenClaim := { program := "ytljmncdlehinnaa", sum := "df455e4c4dfa46ad1fe479439e49e9a9f12b24ea31c3b978d9bf1737aaf9d341", func := "coatcheck/coatchecklaw11.EntrySteps", spec := "entrySteps", unfollowed := true, recurses := true, apart := false, narrowed := true }
def EntryStepsUptoSaid : Prop := entryStepsUptoRow.holds Try.pinned (OpenSpec.upto entryStepsSpec)

/-- 'coatchecklaw11.EntryLives', WHERE WHAT IT READS IS OF BULK AT MOST 1048576: true; the input reads as it did. -/
def entryLivesUptoRow : OpenClaim := { program := "ytljmncdlehinnaa", sum := "df455e4c4dfa46ad1fe479439e49e9a9f12b24ea31c3b978d9bf1737aaf9d341", func := "coatcheck/coatchecklaw11.EntryLives", spec := "entryLives", unfollowed := true, recurses := true, apart := false, narrowed := true }
def EntryLivesUptoSaid : Prop := entryLivesUptoRow.holds Try.pinned (OpenSpec.upto entryLivesSpec)

/-- 'coatchecklaw11.EntryKills', WHERE WHAT IT READS IS OF BULK AT MOST 1048576: true; the input reads as it did. -/
def entryKillsUptoRow : OpenClaim := { program := "ytljmncdlehinnaa", sum := "df455e4c4dfa46ad1fe479439e49e9a9f12b24ea31c3b978d9bf1737aaf9d341", func := "coatcheck/coatchecklaw11.EntryKills", spec := "entryKills", unfollowed := true, recurses := true, apart := false, narrowed := true }
def EntryKillsUptoSaid : Prop := entryKillsUptoRow.holds Try.pinned (OpenSpec.upto entryKillsSpec)

/-- 'coatchecklaw11.EntryChanges', WHERE WHAT IT READS IS OF BULK AT MOST 1048576: true; the input reads as it did. -/
def entryChangesUptoRow : OpenClaim := { program := "ytljmncdlehinnaa", sum := "df455e4c4dfa46ad1fe479439e49e9a9f12b24ea31c3b978d9bf1737aaf9d341", func := "coatcheck/coatchecklaw11.EntryChanges", spec := "entryChanges", unfollowed := true, recurses := true, apart := false, narrowed := true }
def EntryChangesUptoSaid : Prop := entryChangesUptoRow.holds Try.pinned (OpenSpec.upto entryChangesSpec)

/-- 'coatchecklaw10.GiveAlone', WHERE WHAT IT READS IS OF BULK AT MOST 1048576: true; the input reads as it did. -/
def giveAloneUptoRow : OpenClaim := { program := "ytljmncdlehinnaa", sum := "df455e4c4dfa46ad1fe479439e49e9a9f12b24ea31c3b978d9bf1737aaf9d341", func := "coatcheck/coatchecklaw10.GiveAlone", spec := "giveAlone", unfollowed := true, recurses := true, apart := false, narrowed := true }
def GiveAloneUptoSaid : Prop := giveAloneUptoRow.holds Try.pinned (OpenSpec.upto giveAloneSpec)

/-- 'coatchecklaw09.TakeSpares', WHERE WHAT IT READS IS OF BULK AT MOST 1048576: true; the input reads as it did. -/
def takeSparesUptoRow : OpenClaim := { program := "ytljmncdlehinnaa", sum := "df455e4c4dfa46ad1fe479439e49e9a9f12b24ea31c3b978d9bf1737aaf9d341", func := "coatcheck/coatchecklaw09.TakeSpares", spec := "takeSpares", unfollowed := true, recurses := true, apart := false, narrowed := true }
def TakeSparesUptoSaid : Prop := takeSparesUptoRow.holds Try.pinned (OpenSpec.upto takeSparesSpec)

end Rows
end Go.Proofs.Ytljmncdlehinnaa
