/-
  No cell of these rows narrows 'for every input' (looked for: loops, veiled, ifaces, maps, wideKeys, modest, calm, conditions, laid).
  DERIVED. THE GIVEN ROWS OF THIS SEAT. 6 by the template 'for every input the law returns true; each argument reads behind the call as it read before'; 0 by the template 'total and deterministic' (their statements: YtmjamhgihbapjaaTotals.lean).
  GIVEN WITH THE SEED: the statements are not yours to turn. If you find one false, say at which input.
  Laid BY PROGRAM, IN A SANDBOX (cutbox-rows.mjs): the forced cells as the released guide's own fill.sh prints them over the translation 50eaef9a232fa45f… (all of the seat's roots in one cut). By AI agents, Wed Nov 11 2026. No macro, syntax, notation, axiom, sorry.
-/
import Derived.Test.YtmjamhgihbapjaaChecked
import GoSem.Claim
import GoSem.ClaimJoined
import GoSem.ClaimMapViews
import Derived.JoinedTies
import Derived.KernelRfl
namespace Go.Proofs.Ytmjamhgihbapjaa
/- THE CELL 'sum', in the pinned program and in every row, IS THE sha256 OF THE DUMP (.gsa) THAT YtmjamhgihbapjaaProg.lean LOADS. Nothing in Lean hashes anything: it is a label: what it is worth is what the hold of that sum in a sandbox is worth. -/
noncomputable def Try.pinned : Pinned := { name := "ytmjamhgihbapjaa", sum := "50eaef9a232fa45f5b54e0eef1796bea58c581113526ae9d95938c105a2c4de7", checked := Try.checked }
namespace Rows
def none {H : Type} : Left H := { results := [], args := [] }

/-- 'stagecoachlaw12.OffsetsLoads': WHATEVER THE INPUT: true; the input reads as it did. -/
def offsetsLoadsSpec : ChangeSpec := { name := "offsetsLoads", fn := fun _ => fun
  | [d] => { results := [.lit (.bool true)], args := [d] }
  | _ => none }
def offsetsLoadsRow : OpenClaim := { program := "ytmjamhgihbapjaa", sum := "50eaef9a232fa45f5b54e0eef1796bea58c581113526ae9d95938c105a2c4de7", func := "stagecoach/stagecoachlaw12.OffsetsLoads", spec := "offsetsLoads", unfollowed := true, recurses := true, plainKeys := false, apart := false }
def OffsetsLoadsSaid : Prop := offsetsLoadsRow.holds Try.pinned (OpenSpec.ofChange offsetsLoadsSpec)

/-- ITS FALSE NEIGHBOUR: 'it returns false'. Refute it at one input. -/
def offsetsLoadsWrong : ChangeSpec := { name := "offsetsLoads", fn := fun _ => fun
  | [d] => { results := [.lit (.bool false)], args := [d] }
  | _ => none }
def OffsetsLoadsWrongFalsely : Prop := offsetsLoadsRow.holds Try.pinned (OpenSpec.ofChange offsetsLoadsWrong)

/-- 'stagecoachlaw12.OffsetsRise': WHATEVER THE INPUT: true; the input reads as it did. -/
def offsetsRiseSpec : ChangeSpec := { name := "offsetsRise", fn := fun _ => fun
  | [d1, d2] => { results := [.lit (.bool true)], args := [d1, d2] }
  | _ => none }
def offsetsRiseRow : OpenClaim := { program := "ytmjamhgihbapjaa", sum := "50eaef9a232fa45f5b54e0eef1796bea58c581113526ae9d95938c105a2c4de7", func := "stagecoach/stagecoachlaw12.OffsetsRise", spec := "offsetsRise", unfollowed := true, recurses := true, plainKeys := false, apart := false }
def OffsetsRiseSaid : Prop := offsetsRiseRow.holds Try.pinned (OpenSpec.ofChange offsetsRiseSpec)

/-- ITS FALSE NEIGHBOUR: 'it returns false'. Refute it at one input. -/
def offsetsRiseWrong : ChangeSpec := { name := "offsetsRise", fn := fun _ => fun
  | [d1, d2] => { results := [.lit (.bool false)], args := [d1, d2] }
  | _ => none }
def OffsetsRiseWrongFalsely : Prop := offsetsRiseRow.holds Try.pinned (OpenSpec.ofChange offsetsRiseWrong)

/-- 'stagecoachlaw12.OffsetsRaised': WHATEVER THE INPUT: true; the input reads as it did. -/
def offsetsRaisedSpec : ChangeSpec := { name := "offsetsRaised", fn := fun _ => fun
  | [d1, d2, d3] => { results := [.lit (.bool true)], args := [d1, d2, d3] }
  | _ => none }
def offsetsRaisedRow : OpenClaim := { program := "ytmjamhgihbapjaa", sum := "50eaef9a232fa45f5b54e0eef1796bea58c581113526ae9d95938c105a2c4de7", func := "stagecoach/stagecoachlaw12.OffsetsRaised", spec := "offsetsRaised", unfollowed := true, recurses := true, plainKeys := false, apart := false }
def OffsetsRaisedSaid : Prop := offsetsRaisedRow.holds Try.pinned (OpenSpec.ofChange offsetsRaisedSpec)

/-- ITS FALSE NEIGHBOUR: 'it returns false'. Refute it at one input. -/
def offsetsRaisedWrong : ChangeSpec := { name := "offsetsRaised", fn := fun _ => fun
  | [d1, d2, d3] => { results := [.lit (.bool false)], args := [d1, d2, d3] }
  | _ => none }
def OffsetsRaisedWrongFalsely : Prop := offsetsRaisedRow.holds Try.pinned (OpenSpec.ofChange offsetsRaisedWrong)

/-- 'stagecoachlaw12.OffsetsApart': WHATEVER THE INPUT: true; the input reads as it did. -/
def offsetsApartSpec : ChangeSpec := { name := "offsetsApart", fn := fun _ => fun
  | [d1, d2] => { results := [.lit (.bool true)], args := [d1, d2] }
  | _ => none }
def offsetsApartRow : OpenClaim := { program := "ytmjamhgihbapjaa", sum := "50eaef9a232fa45f5b54e0eef1796bea58c581113526ae9d95938c105a2c4de7", func := "stagecoach/stagecoachlaw12.OffsetsApart", spec := "offsetsApart", unfollowed := true, recurses := true, plainKeys := false, apart := false }
def OffsetsApartSaid : Prop := offsetsApartRow.holds Try.pinned (OpenSpec.ofChange offsetsApartSpec)

/-- ITS FALSE NEIGHBOUR: 'it returns false'. Refute it at one input. -/
def offsetsApartWrong : ChangeSpec := { name := "offsetsApart", fn := fun _ => fun
  | [d1, d2] => { results := [.lit (.bool false)], args := [d1, d2] }
  | _ => none }
def OffsetsApartWrongFalsely : Prop := offsetsApartRow.holds Try.pinned (OpenSpec.ofChange offsetsApartWrong)

/-- 'stagecoachlaw12.OffsetsBehind': WHATEVER THE INPUT: true; the input reads as it did. -/
def offsetsBehindSpec : ChangeSpec := { name := "offsetsBehind", fn := fun _ => fun
  | [d1, d2] => { results := [.lit (.bool true)], args := [d1, d2] }
  | _ => none }
def offsetsBehindRow : OpenClaim := { program := "ytmjamhgihbapjaa", sum := "50eaef9a232fa45f5b54e0eef1796bea58c581113526ae9d95938c105a2c4de7", func := "stagecoach/stagecoachlaw12.OffsetsBehind", spec := "offsetsBehind", unfollowed := true, recurses := true, plainKeys := false, apart := false }
def OffsetsBehindSaid : Prop := offsetsBehindRow.holds Try.pinned (OpenSpec.ofChange offsetsBehindSpec)

/-- ITS FALSE NEIGHBOUR: 'it returns false'. Refute it at one input. -/
def offsetsBehindWrong : ChangeSpec := { name := "offsetsBehind", fn := fun _ => fun
  | [d1, d2] => { results := [.lit (.bool false)], args := [d1, d2] }
  | _ => none }
def OffsetsBehindWrongFalsely : Prop := offsetsBehindRow.holds Try.pinned (OpenSpec.ofChange offsetsBehindWrong)

/-- 'stagecoachlaw12.OffsetsDoes': WHATEVER THE INPUT: true; the input reads as it did. -/
def offsetsDoesSpec : ChangeSpec := { name := "offsetsDoes", fn := fun _ => fun
  | [d] => { results := [.lit (.bool true)], args := [d] }
  | _ => none }
def offsetsDoesRow : OpenClaim := { program := "ytmjamhgihbapjaa", sum := "50eaef9a232fa45f5b54e0eef1796bea58c581113526ae9d95938c105a2c4de7", func := "stagecoach/stagecoachlaw12.OffsetsDoes", spec := "offsetsDoes", inPlace := ["maps.clone"], unfollowed := true, recurses := true, plainKeys := false, apart := false }
def OffsetsDoesSaid : Prop := offsetsDoesRow.holds Try.pinned (OpenSpec.ofChange offsetsDoesSpec)

/-- ITS FALSE NEIGHBOUR: 'it returns false'. Refute it at one input. -/
def offsetsDoesWrong : ChangeSpec := { name := "offsetsDoes", fn := fun _ => fun
  | [d] => { results := [.lit (.bool false)], args := [d] }
  | _ => none }
def OffsetsDoesWrongFalsely : Prop := offsetsDoesRow.holds Try.pinned (OpenSpec.ofChange offsetsDoesWrong)

/- THE SECOND FORM. 'bulk': how many values and letters a reading holds, each counted each time it is reached (what is shared counts as often as it is met; a slice's spare places count too). A statement '..UptoSaid' is the law's where the arguments, and the package variables that the reading takes, are together of bulk at most 1048576: NARROWER than '..Said'. Prove '..Said' where nothing that the law and all that it calls make is longer than what came in: it says more and counts as full. Else prove '..UptoSaid'. A law counts once. -/
mutual
def uptoBulk {H : Type} : DataW H → Nat
  | .lit (.string bytes) => bytes.length + 1
  | .lit _ => 1
  | .nil => 1
  | .ptr d => uptoBulk d + 1
  | .slice elems spare => uptoBulkAll elems + uptoBulkAll spare + 1
  | .agg parts => uptoBulkAll parts + 1
  | .iface _ d => uptoBulk d + 1
  | .map entries => uptoBulkEntries entries + 1
  | .held _ => 1
def uptoBulkAll {H : Type} : List (DataW H) → Nat
  | [] => 0
  | d :: r => uptoBulk d + uptoBulkAll r
def uptoBulkEntries {H : Type} : List (Lit × DataW H) → Nat
  | [] => 0
  | x :: r => uptoBulkEntry x + uptoBulkEntries r
def uptoBulkEntry {H : Type} : Lit × DataW H → Nat
  | (.string bytes, d) => bytes.length + uptoBulk d + 1
  | (_, d) => uptoBulk d + 1
 end
def uptoSmall : (H : Type) → List (DataW H) → Bool := fun _ ds => decide (uptoBulkAll ds ≤ 1048576)
def OpenSpec.upto (s : _root_.Go.ChangeSpec) : _root_.Go.OpenSpec := { _root_.Go.OpenSpec.ofChange s with cond := some uptoSmall }

/-- 'stagecoachlaw12.OffsetsLoads', WHERE WHAT IT READS IS OF BULK AT MOST 1048576: true; the input reads as it did. -/
def offsetsLoadsUptoRow : OpenClaim := { program := "ytmjamhgihbapjaa", sum := "50eaef9a232fa45f5b54e0eef1796bea58c581113526ae9d95938c105a2c4de7", func := "stagecoach/stagecoachlaw12.OffsetsLoads", spec := "offsetsLoads", unfollowed := true, recurses := true, plainKeys := false, apart := false, narrowed := true }
def OffsetsLoadsUptoSaid : Prop := offsetsLoadsUptoRow.holds Try.pinned (OpenSpec.upto offsetsLoadsSpec)

/-- 'stagecoachlaw12.OffsetsRise', WHERE WHAT IT READS IS OF BULK AT MOST 1048576: true; the input reads as it did. -/
def offsetsRiseUptoRow : OpenClaim := { program := "ytmjamhgihbapjaa", sum := "50eaef9a232fa45f5b54e0eef1796bea58c581113526ae9d95938c105a2c4de7", func := "stagecoach/stagecoachlaw12.OffsetsRise", spec := "offsetsRise", unfollowed := true, recurses := true, plainKeys := false, apart := false, narrowed := true }
def OffsetsRiseUptoSaid : Prop := offsetsRiseUptoRow.holds Try.pinned (OpenSpec.upto offsetsRiseSpec)

/-- 'stagecoachlaw12.OffsetsRaised', WHERE WHAT IT READS IS OF BULK AT MOST 1048576: true; the input reads as it did. -/
def offsetsRaisedUptoRow : OpenClaim := { program := "ytmjamhgihbapjaa", sum := "50eaef9a232fa45f5b54e0eef1796bea58c581113526ae9d95938c105a2c4de7", func := "stagecoach/stagecoachlaw12.OffsetsRaised", spec := "offsetsRaised", unfollowed := true, recurses := true, plainKeys := false, apart := false, narrowed := true }
def OffsetsRaisedUptoSaid : Prop := offsetsRaisedUptoRow.holds Try.pinned (OpenSpec.upto offsetsRaisedSpec)

/-- 'stagecoachlaw12.OffsetsApart', WHERE WHAT IT READS IS OF BULK AT MOST 1048576: true; the input reads as it did. -/
def offsetsApartUptoRow : OpenClaim := { program := "ytmjamhgihbapjaa", sum := "50eaef9a232fa45f5b54e0eef1796bea58c581113526ae9d95938c105a2c4de7", func := "stagecoach/stagecoachlaw12.OffsetsApart", spec := "offsetsApart", unfollowed := true, recurses := true, plainKeys := false, apart := false, narrowed := true }
def OffsetsApartUptoSaid : Prop := offsetsApartUptoRow.holds Try.pinned (OpenSpec.upto offsetsApartSpec)

/-- 'stagecoachlaw12.OffsetsBehind', WHERE WHAT IT READS IS OF BULK AT MOST 1048576: true; the input reads as it did. -/
def offsetsBehindUptoRow : OpenClaim := { program := "ytmjamhgihbapjaa", sum := "50eaef9a232fa45f5b54e0eef1796bea58c581113526ae9d95938c105a2c4de7", func := "stagecoach/stagecoachlaw12.OffsetsBehind", spec := "offsetsBehind", unfollowed := true, recurses := true, plainKeys := false, apart := false, narrowed := true }
def OffsetsBehindUptoSaid : Prop := offsetsBehindUptoRow.holds Try.pinned (OpenSpec.upto offsetsBehindSpec)

/-- 'stagecoachlaw12.OffsetsDoes', WHERE WHAT IT READS IS OF BULK AT MOST 1048576: true; the input reads as it did. -/
def offsetsDoesUptoRow : OpenClaim := { program := "ytmjamhgihbapjaa", sum := "50eaef9a232fa45f5b54e0eef1796bea58c581113526ae9d95938c105a2c4de7", func := "stagecoach/stagecoachlaw12.OffsetsDoes", spec := "offsetsDoes", inPlace := ["maps.clone"], unfollowed := true, recurses := true, plainKeys := false, apart := false, narrowed := true }
def OffsetsDoesUptoSaid : Prop := offsetsDoesUptoRow.holds Try.pinned (OpenSpec.upto offsetsDoesSpec)

end Rows
end Go.Proofs.Ytmjamhgihbapjaa
