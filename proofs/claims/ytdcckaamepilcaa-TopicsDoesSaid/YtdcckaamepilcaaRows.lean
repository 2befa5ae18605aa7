/-
  No cell of these rows narrows 'for every input' (looked for: loops, veiled, ifaces, maps, wideKeys, modest, calm, conditions, laid).
  DERIVED. THE GIVEN ROWS OF THIS SEAT. 5 by the template 'for every input the law returns true; each argument reads behind the call as it read before'; 0 by the template 'total and deterministic' (their statements: YtdcckaamepilcaaTotals.lean).
  GIVEN WITH THE SEED: the statements are not yours to turn. If you find one false, say at which input.
  Laid BY PROGRAM, IN A SANDBOX (cutbox-rows.mjs): the forced cells as the released guide's own fill.sh prints them over the translation b260c8bed34cfce4… (all of the seat's roots in one cut). By AI agents, Wed Nov 11 2026. No macro, syntax, notation, axiom, sorry.
-/
import Derived.Test.YtdcckaamepilcaaChecked
import GoSem.Claim
import GoSem.ClaimJoined
import GoSem.ClaimMapViews
import Derived.JoinedTies
import Derived.KernelRfl
namespace Go.Proofs.Ytdcckaamepilcaa
/- THE CELL 'sum', in the pinned program and in every row, IS THE sha256 OF THE DUMP (.gsa) THAT YtdcckaamepilcaaProg.lean LOADS. Nothing in Lean hashes anything: it is a label: what it is worth is what the hold of that sum in a sandbox is worth. -/
noncomputable def Try.pinned : Pinned := { name := "ytdcckaamepilcaa", sum := "b260c8bed34cfce48929f2a522a0a73bcc077bcd01e2b53adbae95eacf665990", checked := Try.checked }
namespace Rows
def none {H : Type} : Left H := { results := [], args := [] }

/-- 'stagecoachlaw09.TopicsLoads': WHATEVER THE INPUT: true; the input reads as it did. -/
def topicsLoadsSpec : ChangeSpec := { name := "topicsLoads", fn := fun _ => fun
  | [d] => { results := [.lit (.bool true)], args := [d] }
  | _ => none }
def topicsLoadsRow : OpenClaim := { program := "ytdcckaamepilcaa", sum := "b260c8bed34cfce48929f2a522a0a73bcc077bcd01e2b53adbae95eacf665990", func := "stagecoach/stagecoachlaw09.TopicsLoads", spec := "topicsLoads", unfollowed := true, recurses := true, apart := false }
def TopicsLoadsSaid : Prop := topicsLoadsRow.holds Try.pinned (OpenSpec.ofChange topicsLoadsSpec)

/-- ITS FALSE NEIGHBOUR: 'it returns false'. Refute it at one input. -/
def topicsLoadsWrong : ChangeSpec := { name := "topicsLoads", fn := fun _ => fun
  | [d] => { results := [.lit (.bool false)], args := [d] }
  | _ => none }
def TopicsLoadsWrongFalsely : Prop := topicsLoadsRow.holds Try.pinned (OpenSpec.ofChange topicsLoadsWrong)

/-- 'stagecoachlaw09.TopicsParts': WHATEVER THE INPUT: true; the input reads as it did. -/
def topicsPartsSpec : ChangeSpec := { name := "topicsParts", fn := fun _ => fun
  | [d1, d2] => { results := [.lit (.bool true)], args := [d1, d2] }
  | _ => none }
def topicsPartsRow : OpenClaim := { program := "ytdcckaamepilcaa", sum := "b260c8bed34cfce48929f2a522a0a73bcc077bcd01e2b53adbae95eacf665990", func := "stagecoach/stagecoachlaw09.TopicsParts", spec := "topicsParts", unfollowed := true, recurses := true, apart := false }
def TopicsPartsSaid : Prop := topicsPartsRow.holds Try.pinned (OpenSpec.ofChange topicsPartsSpec)

/-- ITS FALSE NEIGHBOUR: 'it returns false'. Refute it at one input. -/
def topicsPartsWrong : ChangeSpec := { name := "topicsParts", fn := fun _ => fun
  | [d1, d2] => { results := [.lit (.bool false)], args := [d1, d2] }
  | _ => none }
def TopicsPartsWrongFalsely : Prop := topicsPartsRow.holds Try.pinned (OpenSpec.ofChange topicsPartsWrong)

/-- 'stagecoachlaw09.TopicsFull': WHATEVER THE INPUT: true; the input reads as it did. -/
def topicsFullSpec : ChangeSpec := { name := "topicsFull", fn := fun _ => fun
  | [d1, d2] => { results := [.lit (.bool true)], args := [d1, d2] }
  | _ => none }
def topicsFullRow : OpenClaim := { program := "ytdcckaamepilcaa", sum := "b260c8bed34cfce48929f2a522a0a73bcc077bcd01e2b53adbae95eacf665990", func := "stagecoach/stagecoachlaw09.TopicsFull", spec := "topicsFull", unfollowed := true, recurses := true, apart := false }
def TopicsFullSaid : Prop := topicsFullRow.holds Try.pinned (OpenSpec.ofChange topicsFullSpec)

/-- ITS FALSE NEIGHBOUR: 'it returns false'. Refute it at one input. -/
def topicsFullWrong : ChangeSpec := { name := "topicsFull", fn := fun _ => fun
  | [d1, d2] => { results := [.lit (.bool false)], args := [d1, d2] }
  | _ => none }
def TopicsFullWrongFalsely : Prop := topicsFullRow.holds Try.pinned (OpenSpec.ofChange topicsFullWrong)

/-- 'stagecoachlaw09.TopicsGrow': WHATEVER THE INPUT: true; the input reads as it did. -/
def topicsGrowSpec : ChangeSpec := { name := "topicsGrow", fn := fun _ => fun
  | [d1, d2] => { results := [.lit (.bool true)], args := [d1, d2] }
  | _ => none }
def topicsGrowRow : OpenClaim := { program := "ytdcckaamepilcaa", sum := "b260c8bed34cfce48929f2a522a0a73bcc077bcd01e2b53adbae95eacf665990", func := "stagecoach/stagecoachlaw09.TopicsGrow", spec := "topicsGrow", unfollowed := true, recurses := true, apart := false }
def TopicsGrowSaid : Prop := topicsGrowRow.holds Try.pinned (OpenSpec.ofChange topicsGrowSpec)

/-- ITS FALSE NEIGHBOUR: 'it returns false'. Refute it at one input. -/
def topicsGrowWrong : ChangeSpec := { name := "topicsGrow", fn := fun _ => fun
  | [d1, d2] => { results := [.lit (.bool false)], args := [d1, d2] }
  | _ => none }
def TopicsGrowWrongFalsely : Prop := topicsGrowRow.holds Try.pinned (OpenSpec.ofChange topicsGrowWrong)

/-- 'stagecoachlaw09.TopicsDoes': WHATEVER THE INPUT: true; the input reads as it did. -/
def topicsDoesSpec : ChangeSpec := { name := "topicsDoes", fn := fun _ => fun
  | [d1, d2] => { results := [.lit (.bool true)], args := [d1, d2] }
  | _ => none }
def topicsDoesRow : OpenClaim := { program := "ytdcckaamepilcaa", sum := "b260c8bed34cfce48929f2a522a0a73bcc077bcd01e2b53adbae95eacf665990", func := "stagecoach/stagecoachlaw09.TopicsDoes", spec := "topicsDoes", inPlace := ["maps.clone"], unfollowed := true, recurses := true, apart := false }
def TopicsDoesSaid : Prop := topicsDoesRow.holds Try.pinned (OpenSpec.ofChange topicsDoesSpec)

/-- ITS FALSE NEIGHBOUR: 'it returns false'. Refute it at one input. -/
def topicsDoesWrong : ChangeSpec := { name := "topicsDoes", fn := fun _ => fun
  | [d1, d2] => { results := [.lit (.bool false)], args := [d1, d2] }
  | _ => none }
def TopicsDoesWrongFalsely : Prop := topicsDoesRow.holds Try.pinned (OpenSpec.ofChange topicsDoesWrong)

/- THE SECOND FORM. 'bulk': how many values and letters a reading holds, each counted each time it is reached (what is shared counts as often as it is met; a slice's spare places count too). A statement '..UptoSaid' is the law's where the arguments, and the package variables that the reading takes, are together of bulk at most 1048576: NARROWER than '..Said'. Prove '..Said' where nothing that the law and all that it calls make is longer than what came in: it says more and counts as full. Else prove '..UptoSaid'. A law counts once. -/
mutual
def uptoBulk {H : Type} : DataW H → Nat
  | .lit (.string bytes) => bytes.length + 1
  | .lit _ => 1
  | .nil => 1
  | .ptr d => uptoBulk d + 1
  | .slice elems spare => uptoBulkAll elems + uptoBulkAll spare + 1
  | .agg parts => uptoBulkAll parts + 1
  | .iface _ d => uptoBulk d + 1
  | .map entries => uptoBulkEntries entries + 1
  | .held _ => 1
def uptoBulkAll {H : Type} : List (DataW H) → Nat
  | [] => 0
  | d :: r => uptoBulk d + uptoBulkAll r
def uptoBulkEntries {H : Type} : List (Lit × DataW H) → Nat
  | [] => 0
  | x :: r => uptoBulkEntry x + uptoBulkEntries r
def uptoBulkEntry {H : Type} : Lit × DataW H → Nat
  | (.string bytes, d) => bytes.length + uptoBulk d + 1
  | (_, d) => uptoBulk d + 1
 end
def uptoSmall : (H : Type) → List (DataW H) → Bool := fun _ ds => decide (uptoBulkAll ds ≤ 1048576)
def OpenSpec.upto (s : _root_.Go.ChangeSpec) : _root_.Go.OpenSpec := { _root_.Go.OpenSpec.ofChange s with cond := some uptoSmall }

/-- 'stagecoachlaw09.TopicsLoads', WHERE WHAT IT READS IS OF BULK AT MOST 1048576: true; the input reads as it did. -/
def topicsLoadsUptoRow : OpenClaim := { program := "ytdcckaamepilcaa", sum := "b260c8bed34cfce48929f2a522a0a73bcc077bcd01e2b53adbae95eacf665990", func := "stagecoach/stagecoachlaw09.TopicsLoads", spec := "topicsLoads", unfollowed := true, recurses := true, apart := false, narrowed := true }
def TopicsLoadsUptoSaid : Prop := topicsLoadsUptoRow.holds Try.pinned (OpenSpec.upto topicsLoadsSpec)

/-- 'stagecoachlaw09.TopicsParts', WHERE WHAT IT READS IS OF BULK AT MOST 1048576: true; the input reads as it did. -/
def topicsPartsUptoRow : OpenClaim := { program := "ytdcckaamepilcaa", sum := "b260c8bed34cfce48929f2a522a0a73bcc077bcd01e2b53adbae95eacf665990", func := "stagecoach/stagecoachlaw09.TopicsParts", spec := "topicsParts", unfollowed := true, recurses := true, apart := false, narrowed := true }
def TopicsPartsUptoSaid : Prop := topicsPartsUptoRow.holds Try.pinned (OpenSpec.upto topicsPartsSpec)

/-- 'stagecoachlaw09.TopicsFull', WHERE WHAT IT READS IS OF BULK AT MOST 1048576: true; the input reads as it did. -/
def topicsFullUptoRow : OpenClaim := { program := "ytdcckaamepilcaa", sum := "b260c8bed34cfce48929f2a522a0a73bcc077bcd01e2b53adbae95eacf665990", func := "stagecoach/stagecoachlaw09.TopicsFull", spec := "topicsFull", unfollowed := true, recurses := true, apart := false, narrowed := true }
def TopicsFullUptoSaid : Prop := topicsFullUptoRow.holds Try.pinned (OpenSpec.upto topicsFullSpec)

/-- 'stagecoachlaw09.TopicsGrow', WHERE WHAT IT READS IS OF BULK AT MOST 1048576: true; the input reads as it did. -/
def topicsGrowUptoRow : OpenClaim := { program := "ytdcckaamepilcaa", sum := "b260c8bed34cfce48929f2a522a0a73bcc077bcd01e2b53adbae95eacf665990", func := "stagecoach/stagecoachlaw09.TopicsGrow", spec := "topicsGrow", unfollowed := true, recurses := true, apart := false, narrowed := true }
def TopicsGrowUptoSaid : Prop := topicsGrowUptoRow.holds Try.pinned (OpenSpec.upto topicsGrowSpec)

/-- 'stagecoachlaw09.TopicsDoes', WHERE WHAT IT READS IS OF BULK AT MOST 1048576: true; the input reads as it did. -/
def topicsDoesUptoRow : OpenClaim := { program := "ytdcckaamepilcaa", sum := "b260c8bed34cfce48929f2a522a0a73bcc077bcd01e2b53adbae95eacf665990", func := "stagecoach/stagecoachlaw09.TopicsDoes", spec := "topicsDoes", inPlace := ["maps.clone"], unfollowed := true, recurses := true, apart := false, narrowed := true }
def TopicsDoesUptoSaid : Prop := topicsDoesUptoRow.holds Try.pinned (OpenSpec.upto topicsDoesSpec)

end Rows
end Go.Proofs.Ytdcckaamepilcaa
