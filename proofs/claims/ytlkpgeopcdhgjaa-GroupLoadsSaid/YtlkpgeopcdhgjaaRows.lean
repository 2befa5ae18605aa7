/-
  No cell of these rows narrows 'for every input' (looked for: loops, veiled, ifaces, maps, wideKeys, modest, calm, conditions, laid).
  DERIVED. THE GIVEN ROWS OF THIS SEAT. 6 by the template 'for every input the law returns true; each argument reads behind the call as it read before'; 0 by the template 'total and deterministic' (their statements: YtlkpgeopcdhgjaaTotals.lean).
  GIVEN WITH THE SEED: the statements are not yours to turn. If you find one false, say at which input.
  Laid BY PROGRAM, IN A SANDBOX (cutbox-rows.mjs): the forced cells as the released guide's own fill.sh prints them over the translation 272d87243b198b4d… (all of the seat's roots in one cut). By AI agents, Wed Nov 11 2026. No macro, syntax, notation, axiom, sorry.
-/
import Derived.Test.YtlkpgeopcdhgjaaChecked
import GoSem.Claim
import GoSem.ClaimJoined
import GoSem.ClaimMapViews
import Derived.JoinedTies
import Derived.KernelRfl
namespace Go.Proofs.Ytlkpgeopcdhgjaa
/- THE CELL 'sum', in the pinned program and in every row, IS THE sha256 OF THE DUMP (.gsa) THAT YtlkpgeopcdhgjaaProg.lean LOADS. Nothing in Lean hashes anything: it is a label: what it is worth is what the hold of that sum in a sandbox is worth. -/
noncomputable def Try.pinned : Pinned := { name := "ytlkpgeopcdhgjaa", sum := "272d87243b198b4da49c5a570b5387736a68a1b70770accdee954dc927e431ac", checked := Try.checked }
namespace Rows
def none {H : Type} : Left H := { results := [], args := [] }

/-- 'stagecoachlaw11.GroupModes': WHATEVER THE INPUT: true; the input reads as it did. -/
def groupModesSpec : ChangeSpec := { name := "groupModes", fn := fun _ => fun
  | [d1, d2] => { results := [.lit (.bool true)], args := [d1, d2] }
  | _ => none }
def groupModesRow : OpenClaim := { program := "ytlkpgeopcdhgjaa", sum := "272d87243b198b4da49c5a570b5387736a68a1b70770accdee954dc927e431ac", func := "stagecoach/stagecoachlaw11.GroupModes", spec := "groupModes", unfollowed := true, recurses := true, apart := false }
def GroupModesSaid : Prop := groupModesRow.holds Try.pinned (OpenSpec.ofChange groupModesSpec)

/-- ITS FALSE NEIGHBOUR: 'it returns false'. Refute it at one input. -/
def groupModesWrong : ChangeSpec := { name := "groupModes", fn := fun _ => fun
  | [d1, d2] => { results := [.lit (.bool false)], args := [d1, d2] }
  | _ => none }
def GroupModesWrongFalsely : Prop := groupModesRow.holds Try.pinned (OpenSpec.ofChange groupModesWrong)

/-- 'stagecoachlaw11.GroupDoes': WHATEVER THE INPUT: true; the input reads as it did. -/
def groupDoesSpec : ChangeSpec := { name := "groupDoes", fn := fun _ => fun
  | [d] => { results := [.lit (.bool true)], args := [d] }
  | _ => none }
def groupDoesRow : OpenClaim := { program := "ytlkpgeopcdhgjaa", sum := "272d87243b198b4da49c5a570b5387736a68a1b70770accdee954dc927e431ac", func := "stagecoach/stagecoachlaw11.GroupDoes", spec := "groupDoes", unfollowed := true, recurses := true, apart := false }
def GroupDoesSaid : Prop := groupDoesRow.holds Try.pinned (OpenSpec.ofChange groupDoesSpec)

/-- ITS FALSE NEIGHBOUR: 'it returns false'. Refute it at one input. -/
def groupDoesWrong : ChangeSpec := { name := "groupDoes", fn := fun _ => fun
  | [d] => { results := [.lit (.bool false)], args := [d] }
  | _ => none }
def GroupDoesWrongFalsely : Prop := groupDoesRow.holds Try.pinned (OpenSpec.ofChange groupDoesWrong)

/-- 'stagecoachlaw11.GroupLoads': WHATEVER THE INPUT: true; the input reads as it did. -/
def groupLoadsSpec : ChangeSpec := { name := "groupLoads", fn := fun _ => fun
  | [d1, d2, d3] => { results := [.lit (.bool true)], args := [d1, d2, d3] }
  | _ => none }
def groupLoadsRow : OpenClaim := { program := "ytlkpgeopcdhgjaa", sum := "272d87243b198b4da49c5a570b5387736a68a1b70770accdee954dc927e431ac", func := "stagecoach/stagecoachlaw11.GroupLoads", spec := "groupLoads", unfollowed := true, recurses := true, apart := false }
def GroupLoadsSaid : Prop := groupLoadsRow.holds Try.pinned (OpenSpec.ofChange groupLoadsSpec)

/-- ITS FALSE NEIGHBOUR: 'it returns false'. Refute it at one input. -/
def groupLoadsWrong : ChangeSpec := { name := "groupLoads", fn := fun _ => fun
  | [d1, d2, d3] => { results := [.lit (.bool false)], args := [d1, d2, d3] }
  | _ => none }
def GroupLoadsWrongFalsely : Prop := groupLoadsRow.holds Try.pinned (OpenSpec.ofChange groupLoadsWrong)

/-- 'stagecoachlaw11.GroupParts': WHATEVER THE INPUT: true; the input reads as it did. -/
def groupPartsSpec : ChangeSpec := { name := "groupParts", fn := fun _ => fun
  | [d1, d2] => { results := [.lit (.bool true)], args := [d1, d2] }
  | _ => none }
def groupPartsRow : OpenClaim := { program := "ytlkpgeopcdhgjaa", sum := "272d87243b198b4da49c5a570b5387736a68a1b70770accdee954dc927e431ac", func := "stagecoach/stagecoachlaw11.GroupParts", spec := "groupParts", unfollowed := true, recurses := true, apart := false }
def GroupPartsSaid : Prop := groupPartsRow.holds Try.pinned (OpenSpec.ofChange groupPartsSpec)

/-- ITS FALSE NEIGHBOUR: 'it returns false'. Refute it at one input. -/
def groupPartsWrong : ChangeSpec := { name := "groupParts", fn := fun _ => fun
  | [d1, d2] => { results := [.lit (.bool false)], args := [d1, d2] }
  | _ => none }
def GroupPartsWrongFalsely : Prop := groupPartsRow.holds Try.pinned (OpenSpec.ofChange groupPartsWrong)

/-- 'stagecoachlaw11.GroupGens': WHATEVER THE INPUT: true; the input reads as it did. -/
def groupGensSpec : ChangeSpec := { name := "groupGens", fn := fun _ => fun
  | [d] => { results := [.lit (.bool true)], args := [d] }
  | _ => none }
def groupGensRow : OpenClaim := { program := "ytlkpgeopcdhgjaa", sum := "272d87243b198b4da49c5a570b5387736a68a1b70770accdee954dc927e431ac", func := "stagecoach/stagecoachlaw11.GroupGens", spec := "groupGens", unfollowed := true, recurses := true, apart := false }
def GroupGensSaid : Prop := groupGensRow.holds Try.pinned (OpenSpec.ofChange groupGensSpec)

/-- ITS FALSE NEIGHBOUR: 'it returns false'. Refute it at one input. -/
def groupGensWrong : ChangeSpec := { name := "groupGens", fn := fun _ => fun
  | [d] => { results := [.lit (.bool false)], args := [d] }
  | _ => none }
def GroupGensWrongFalsely : Prop := groupGensRow.holds Try.pinned (OpenSpec.ofChange groupGensWrong)

/-- 'stagecoachlaw11.GroupExpires': WHATEVER THE INPUT: true; the input reads as it did. -/
def groupExpiresSpec : ChangeSpec := { name := "groupExpires", fn := fun _ => fun
  | [d1, d2] => { results := [.lit (.bool true)], args := [d1, d2] }
  | _ => none }
def groupExpiresRow : OpenClaim := { program := "ytlkpgeopcdhgjaa", sum := "272d87243b198b4da49c5a570b5387736a68a1b70770accdee954dc927e431ac", func := "stagecoach/stagecoachlaw11.GroupExpires", spec := "groupExpires", unfollowed := true, recurses := true, apart := false }
def GroupExpiresSaid : Prop := groupExpiresRow.holds Try.pinned (OpenSpec.ofChange groupExpiresSpec)

/-- ITS FALSE NEIGHBOUR: 'it returns false'. Refute it at one input. -/
def groupExpiresWrong : ChangeSpec := { name := "groupExpires", fn := fun _ => fun
  | [d1, d2] => { results := [.lit (.bool false)], args := [d1, d2] }
  | _ => none }
def GroupExpiresWrongFalsely : Prop := groupExpiresRow.holds Try.pinned (OpenSpec.ofChange groupExpiresWrong)

/- THE SECOND FORM. 'bulk': how many values and letters a reading holds, each counted each time it is reached (what is shared counts as often as it is met; a slice's spare places count too). A statement '..UptoSaid' is the law's where the arguments, and the package variables that the reading takes, are together of bulk at most 1048576: NARROWER than '..Said'. Prove '..Said' where nothing that the law and all that it calls make is longer than what came in: it says more and counts as full. Else prove '..UptoSaid'. A law counts once. -/
mutual
def uptoBulk {H : Type} : DataW H → Nat
  | .lit (.string bytes) => bytes.length + 1
  | .lit _ => 1
  | .nil => 1
  | .ptr d => uptoBulk d + 1
  | .slice elems spare => uptoBulkAll elems + uptoBulkAll spare + 1
  | .agg parts => uptoBulkAll parts + 1
  | .iface _ d => uptoBulk d + 1
  | .map entries => uptoBulkEntries entries + 1
  | .held _ => 1
def uptoBulkAll {H : Type} : List (DataW H) → Nat
  | [] => 0
  | d :: r => uptoBulk d + uptoBulkAll r
def uptoBulkEntries {H : Type} : List (Lit × DataW H) → Nat
  | [] => 0
  | x :: r => uptoBulkEntry x + uptoBulkEntries r
def uptoBulkEntry {H : Type} : Lit × DataW H → Nat
  | (.string bytes, d) => bytes.length + uptoBulk d + 1
  | (_, d) => uptoBulk d + 1
 end
def uptoSmall : (H : Type) → List (DataW H) → Bool := fun _ ds => decide (uptoBulkAll ds ≤ 1048576)
def OpenSpec.upto (s : _root_.Go.ChangeSpec) : _root_.Go.OpenSpec := { _root_.Go.OpenSpec.ofChange s with cond := some uptoSmall }

/-- 'stagecoachlaw11.GroupModes', WHERE WHAT IT READS IS OF BULK AT MOST 1048576: true; the input reads as it did. -/
def groupModesUptoRow : OpenClaim := { program := "ytlkpgeopcdhgjaa", sum := "272d87243b198b4da49c5a570b5387736a68a1b70770accdee954dc927e431ac", func := "stagecoach/stagecoachlaw11.GroupModes", spec := "groupModes", unfollowed := true, recurses := true, apart := false, narrowed := true }
def GroupModesUptoSaid : Prop := groupModesUptoRow.holds Try.pinned (OpenSpec.upto groupModesSpec)

/-- 'stagecoachlaw11.GroupDoes', WHERE WHAT IT READS IS OF BULK AT MOST 1048576: true; the input reads as it did. -/
def groupDoesUptoRow : OpenClaim := { program := "ytlkpgeopcdhgjaa", sum := "272d87243b198b4da49c5a570b5387736a68a1b70770accdee954dc927e431ac", func := "stagecoach/stagecoachlaw11.GroupDoes", spec := "groupDoes", unfollowed := true, recurses := true, apart := false, narrowed := true }
def GroupDoesUptoSaid : Prop := groupDoesUptoRow.holds Try.pinned (OpenSpec.upto groupDoesSpec)

/-- 'stagecoachlaw11.GroupLoads', WHERE WHAT IT READS IS OF BULK AT MOST 1048576: true; the input reads as it did. -/
def groupLoadsUptoRow : OpenClaim := { program := "ytlkpgeopcdhgjaa", sum := "272d87243b198b4da49c5a570b5387736a68a1b70770accdee954dc927e431ac", func := "stagecoach/stagecoachlaw11.GroupLoads", spec := "groupLoads", unfollowed := true, recurses := true, apart := false, narrowed := true }
def GroupLoadsUptoSaid : Prop := groupLoadsUptoRow.holds Try.pinned (OpenSpec.upto groupLoadsSpec)

/-- 'stagecoachlaw11.GroupParts', WHERE WHAT IT READS IS OF BULK AT MOST 1048576: true; the input reads as it did. -/
def groupPartsUptoRow : OpenClaim := { program := "ytlkpgeopcdhgjaa", sum := "272d87243b198b4da49c5a570b5387736a68a1b70770accdee954dc927e431ac", func := "stagecoach/stagecoachlaw11.GroupParts", spec := "groupParts", unfollowed := true, recurses := true, apart := false, narrowed := true }
def GroupPartsUptoSaid : Prop := groupPartsUptoRow.holds Try.pinned (OpenSpec.upto groupPartsSpec)

/-- 'stagecoachlaw11.GroupGens', WHERE WHAT IT READS IS OF BULK AT MOST 1048576: true; the input reads as it did. -/
def groupGensUptoRow : OpenClaim := { program := "ytlkpgeopcdhgjaa", sum := "272d87243b198b4da49c5a570b5387736a68a1b70770accdee954dc927e431ac", func := "stagecoach/stagecoachlaw11.GroupGens", spec := "groupGens", unfollowed := true, recurses := true, apart := false, narrowed := true }
def GroupGensUptoSaid : Prop := groupGensUptoRow.holds Try.pinned (OpenSpec.upto groupGensSpec)

/-- 'stagecoachlaw11.GroupExpires', WHERE WHAT IT READS IS OF BULK AT MOST 1048576: true; the input reads as it did. -/
def groupExpiresUptoRow : OpenClaim := { program := "ytlkpgeopcdhgjaa", sum := "272d87243b198b4da49c5a570b5387736a68a1b70770accdee954dc927e431ac", func := "stagecoach/stagecoachlaw11.GroupExpires", spec := "groupExpires", unfollowed := true, recurses := true, apart := false, narrowed := true }
def GroupExpiresUptoSaid : Prop := groupExpiresUptoRow.holds Try.pinned (OpenSpec.upto groupExpiresSpec)

end Rows
end Go.Proofs.Ytlkpgeopcdhgjaa
