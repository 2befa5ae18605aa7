/-
  No cell of these rows narrows 'for every input' (looked for: loops, veiled, ifaces, maps, wideKeys, modest, calm, conditions, laid).
  DERIVED. THE GIVEN ROWS OF THIS SEAT. 6 by the template 'for every input the law returns true; each argument reads behind the call as it read before'; 0 by the template 'total and deterministic' (their statements: YtoebejfffakjpaaTotals.lean).
  GIVEN WITH THE SEED: the statements are not yours to turn. If you find one false, say at which input.
  Laid BY PROGRAM, IN A SANDBOX (cutbox-rows.mjs): the forced cells as the released guide's own fill.sh prints them over the translation 79f75e04f97daeb6… (all of the seat's roots in one cut). By AI agents, Wed Nov 11 2026. No macro, syntax, notation, axiom, sorry.
-/
import Derived.Test.YtoebejfffakjpaaChecked
import GoSem.Claim
import GoSem.ClaimJoined
import GoSem.ClaimMapViews
import Derived.JoinedTies
import Derived.KernelRfl
namespace Go.Proofs.Ytoebejfffakjpaa
/- THE CELL 'sum', in the pinned program and in every row, IS THE sha256 OF THE DUMP (.gsa) THAT YtoebejfffakjpaaProg.lean LOADS. Nothing in Lean hashes anything: it is a label: what it is worth is what the hold of that sum in a sandbox is worth. -/
noncomputable def Try.pinned : Pinned := { name := "ytoebejfffakjpaa", sum := "79f75e04f97daeb6c6fefe9563b2c8aa93405b8bbbf44beb12c6ca0f20686f30", checked := Try.checked }
namespace Rows
def none {H : Type} : Left H := { results := [], args := [] }

/-- 'stagecoachlaw10.AssignTells': WHATEVER THE INPUT: true; the input reads as it did. -/
def assignTellsSpec : ChangeSpec := { name := "assignTells", fn := fun _ => fun
  | [d1, d2] => { results := [.lit (.bool true)], args := [d1, d2] }
  | _ => none }
def assignTellsRow : OpenClaim := { program := "ytoebejfffakjpaa", sum := "79f75e04f97daeb6c6fefe9563b2c8aa93405b8bbbf44beb12c6ca0f20686f30", func := "stagecoach/stagecoachlaw10.AssignTells", spec := "assignTells", unfollowed := true, recurses := true, apart := false }
def AssignTellsSaid : Prop := assignTellsRow.holds Try.pinned (OpenSpec.ofChange assignTellsSpec)

/-- ITS FALSE NEIGHBOUR: 'it returns false'. Refute it at one input. -/
def assignTellsWrong : ChangeSpec := { name := "assignTells", fn := fun _ => fun
  | [d1, d2] => { results := [.lit (.bool false)], args := [d1, d2] }
  | _ => none }
def AssignTellsWrongFalsely : Prop := assignTellsRow.holds Try.pinned (OpenSpec.ofChange assignTellsWrong)

/-- 'stagecoachlaw10.AssignOnce': WHATEVER THE INPUT: true; the input reads as it did. -/
def assignOnceSpec : ChangeSpec := { name := "assignOnce", fn := fun _ => fun
  | [d] => { results := [.lit (.bool true)], args := [d] }
  | _ => none }
def assignOnceRow : OpenClaim := { program := "ytoebejfffakjpaa", sum := "79f75e04f97daeb6c6fefe9563b2c8aa93405b8bbbf44beb12c6ca0f20686f30", func := "stagecoach/stagecoachlaw10.AssignOnce", spec := "assignOnce", unfollowed := true, recurses := true, apart := false }
def AssignOnceSaid : Prop := assignOnceRow.holds Try.pinned (OpenSpec.ofChange assignOnceSpec)

/-- ITS FALSE NEIGHBOUR: 'it returns false'. Refute it at one input. -/
def assignOnceWrong : ChangeSpec := { name := "assignOnce", fn := fun _ => fun
  | [d] => { results := [.lit (.bool false)], args := [d] }
  | _ => none }
def AssignOnceWrongFalsely : Prop := assignOnceRow.holds Try.pinned (OpenSpec.ofChange assignOnceWrong)

/-- 'stagecoachlaw10.AssignFair': WHATEVER THE INPUT: true; the input reads as it did. -/
def assignFairSpec : ChangeSpec := { name := "assignFair", fn := fun _ => fun
  | [d] => { results := [.lit (.bool true)], args := [d] }
  | _ => none }
def assignFairRow : OpenClaim := { program := "ytoebejfffakjpaa", sum := "79f75e04f97daeb6c6fefe9563b2c8aa93405b8bbbf44beb12c6ca0f20686f30", func := "stagecoach/stagecoachlaw10.AssignFair", spec := "assignFair", unfollowed := true, recurses := true, apart := false }
def AssignFairSaid : Prop := assignFairRow.holds Try.pinned (OpenSpec.ofChange assignFairSpec)

/-- ITS FALSE NEIGHBOUR: 'it returns false'. Refute it at one input. -/
def assignFairWrong : ChangeSpec := { name := "assignFair", fn := fun _ => fun
  | [d] => { results := [.lit (.bool false)], args := [d] }
  | _ => none }
def AssignFairWrongFalsely : Prop := assignFairRow.holds Try.pinned (OpenSpec.ofChange assignFairWrong)

/-- 'stagecoachlaw10.AssignLess': WHATEVER THE INPUT: true; the input reads as it did. -/
def assignLessSpec : ChangeSpec := { name := "assignLess", fn := fun _ => fun
  | [d1, d2] => { results := [.lit (.bool true)], args := [d1, d2] }
  | _ => none }
def assignLessRow : OpenClaim := { program := "ytoebejfffakjpaa", sum := "79f75e04f97daeb6c6fefe9563b2c8aa93405b8bbbf44beb12c6ca0f20686f30", func := "stagecoach/stagecoachlaw10.AssignLess", spec := "assignLess", unfollowed := true, recurses := true, apart := false }
def AssignLessSaid : Prop := assignLessRow.holds Try.pinned (OpenSpec.ofChange assignLessSpec)

/-- ITS FALSE NEIGHBOUR: 'it returns false'. Refute it at one input. -/
def assignLessWrong : ChangeSpec := { name := "assignLess", fn := fun _ => fun
  | [d1, d2] => { results := [.lit (.bool false)], args := [d1, d2] }
  | _ => none }
def AssignLessWrongFalsely : Prop := assignLessRow.holds Try.pinned (OpenSpec.ofChange assignLessWrong)

/-- 'stagecoachlaw10.AssignGrows': WHATEVER THE INPUT: true; the input reads as it did. -/
def assignGrowsSpec : ChangeSpec := { name := "assignGrows", fn := fun _ => fun
  | [d1, d2] => { results := [.lit (.bool true)], args := [d1, d2] }
  | _ => none }
def assignGrowsRow : OpenClaim := { program := "ytoebejfffakjpaa", sum := "79f75e04f97daeb6c6fefe9563b2c8aa93405b8bbbf44beb12c6ca0f20686f30", func := "stagecoach/stagecoachlaw10.AssignGrows", spec := "assignGrows", unfollowed := true, recurses := true, apart := false }
def AssignGrowsSaid : Prop := assignGrowsRow.holds Try.pinned (OpenSpec.ofChange assignGrowsSpec)

/-- ITS FALSE NEIGHBOUR: 'it returns false'. Refute it at one input. -/
def assignGrowsWrong : ChangeSpec := { name := "assignGrows", fn := fun _ => fun
  | [d1, d2] => { results := [.lit (.bool false)], args := [d1, d2] }
  | _ => none }
def AssignGrowsWrongFalsely : Prop := assignGrowsRow.holds Try.pinned (OpenSpec.ofChange assignGrowsWrong)

/-- 'stagecoachlaw10.AssignOne': WHATEVER THE INPUT: true; the input reads as it did. -/
def assignOneSpec : ChangeSpec := { name := "assignOne", fn := fun _ => fun
  | [d] => { results := [.lit (.bool true)], args := [d] }
  | _ => none }
def assignOneRow : OpenClaim := { program := "ytoebejfffakjpaa", sum := "79f75e04f97daeb6c6fefe9563b2c8aa93405b8bbbf44beb12c6ca0f20686f30", func := "stagecoach/stagecoachlaw10.AssignOne", spec := "assignOne", unfollowed := true, recurses := true, apart := false }
def AssignOneSaid : Prop := assignOneRow.holds Try.pinned (OpenSpec.ofChange assignOneSpec)

/-- ITS FALSE NEIGHBOUR: 'it returns false'. Refute it at one input. -/
def assignOneWrong : ChangeSpec := { name := "assignOne", fn := fun _ => fun
  | [d] => { results := [.lit (.bool false)], args := [d] }
  | _ => none }
def AssignOneWrongFalsely : Prop := assignOneRow.holds Try.pinned (OpenSpec.ofChange assignOneWrong)

/- THE SECOND FORM. 'bulk': how many values and letters a reading holds, each counted each time it is reached (what is shared counts as often as it is met; a slice's spare places count too). A statement '..UptoSaid' is the law's where the arguments, and the package variables that the reading takes, are together of bulk at most 1048576: NARROWER than '..Said'. Prove '..Said' where nothing that the law and all that it calls make is longer than what came in: it says more and counts as full. Else prove '..UptoSaid'. A law counts once. -/
mutual
def uptoBulk {H : Type} : DataW H → Nat
  | .lit (.string bytes) => bytes.length + 1
  | .lit _ => 1
  | .nil => 1
  | .ptr d => uptoBulk d + 1
  | .slice elems spare => uptoBulkAll elems + uptoBulkAll spare + 1
  | .agg parts => uptoBulkAll parts + 1
  | .iface _ d => uptoBulk d + 1
  | .map entries => uptoBulkEntries entries + 1
  | .held _ => 1
def uptoBulkAll {H : Type} : List (DataW H) → Nat
  | [] => 0
  | d :: r => uptoBulk d + uptoBulkAll r
def uptoBulkEntries {H : Type} : List (Lit × DataW H) → Nat
  | [] => 0
  | x :: r => uptoBulkEntry x + uptoBulkEntries r
def uptoBulkEntry {H : Type} : Lit × DataW H → Nat
  | (.string bytes, d) => bytes.length + uptoBulk d + 1
  | (_, d) => uptoBulk d + 1
 end
def uptoSmall : (H : Type) → List (DataW H) → Bool := fun _ ds => decide (uptoBulkAll ds ≤ 1048576)
def OpenSpec.upto (s : _root_.Go.ChangeSpec) : _root_.Go.OpenSpec := { _root_.Go.OpenSpec.ofChange s with cond := some uptoSmall }

/-- 'stagecoachlaw10.AssignTells', WHERE WHAT IT READS IS OF BULK AT MOST 1048576: true; the input reads as it did. -/
def assignTellsUptoRow : OpenClaim := { program := "ytoebejfffakjpaa", sum := "79f75e04f97daeb6c6fefe9563b2c8aa93405b8bbbf44beb12c6ca0f20686f30", func := "stagecoach/stagecoachlaw10.AssignTells", spec := "assignTells", unfollowed := true, recurses := true, apart := false, narrowed := true }
def AssignTellsUptoSaid : Prop := assignTellsUptoRow.holds Try.pinned (OpenSpec.upto assignTellsSpec)

/-- 'stagecoachlaw10.AssignOnce', WHERE WHAT IT READS IS OF BULK AT MOST 1048576: true; the input reads as it did. -/
def assignOnceUptoRow : OpenClaim := { program := "ytoebejfffakjpaa", sum := "79f75e04f97daeb6c6fefe9563b2c8aa93405b8bbbf44beb12c6ca0f20686f30", func := "stagecoach/stagecoachlaw10.AssignOnce", spec := "assignOnce", unfollowed := true, recurses := true, apart := false, narrowed := true }
def AssignOnceUptoSaid : Prop := assignOnceUptoRow.holds Try.pinned (OpenSpec.upto assignOnceSpec)

/-- 'stagecoachlaw10.AssignFair', WHERE WHAT IT READS IS OF BULK AT MOST 1048576: true; the input reads as it did. -/
def assignFairUptoRow : OpenClaim := { program := "ytoebejfffakjpaa", sum := "79f75e04f97daeb6c6fefe9563b2c8aa93405b8bbbf44beb12c6ca0f20686f30", func := "stagecoach/stagecoachlaw10.AssignFair", spec := "assignFair", unfollowed := true, recurses := true, apart := false, narrowed := true }
def AssignFairUptoSaid : Prop := assignFairUptoRow.holds Try.pinned (OpenSpec.upto assignFairSpec)

/-- 'stagecoachlaw10.AssignLess', WHERE WHAT IT READS IS OF BULK AT MOST 1048576: true; the input reads as it did. -/
def assignLessUptoRow : OpenClaim := { program := "ytoebejfffakjpaa", sum := "79f75e04f97daeb6c6fefe9563b2c8aa93405b8bbbf44beb12c6ca0f20686f30", func := "stagecoach/stagecoachlaw10.AssignLess", spec := "assignLess", unfollowed := true, recurses := true, apart := false, narrowed := true }
def AssignLessUptoSaid : Prop := assignLessUptoRow.holds Try.pinned (OpenSpec.upto assignLessSpec)

/-- 'stagecoachlaw10.AssignGrows', WHERE WHAT IT READS IS OF BULK AT MOST 1048576: true; the input reads as it did. -/
def assignGrowsUptoRow : OpenClaim := { program := "ytoebejfffakjpaa", sum := "79f75e04f97daeb6c6fefe9563b2c8aa93405b8bbbf44beb12c6ca0f20686f30", func := "stagecoach/stagecoachlaw10.AssignGrows", spec := "assignGrows", unfollowed := true, recurses := true, apart := false, narrowed := true }
def AssignGrowsUptoSaid : Prop := assignGrowsUptoRow.holds Try.pinned (OpenSpec.upto assignGrowsSpec)

/-- 'stagecoachlaw10.AssignOne', WHERE WHAT IT READS IS OF BULK AT MOST 1048576: true; the input reads as it did. -/
def assignOneUptoRow : OpenClaim := { program := "ytoebejfffakjpaa", sum := "79f75e04f97daeb6c6fefe9563b2c8aa93405b8bbbf44beb12c6ca0f20686f30", func := "stagecoach/stagecoachlaw10.AssignOne", spec := "assignOne", unfollowed := true, recurses := true, apart := false, narrowed := true }
def AssignOneUptoSaid : Prop := assignOneUptoRow.holds Try.pinned (OpenSpec.upto assignOneSpec)

end Rows
end Go.Proofs.Ytoebejfffakjpaa
