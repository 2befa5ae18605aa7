/-
  No cell of these rows narrows 'for every input' (looked for: loops, veiled, ifaces, maps, wideKeys, modest, calm, conditions, laid).
  DERIVED. THE GIVEN ROWS OF THIS SEAT. 6 by the template 'for every input the law returns true; each argument reads behind the call as it read before'; 0 by the template 'total and deterministic' (their statements: YtbggmjnhfacjpaaTotals.lean).
  GIVEN WITH THE SEED: the statements are not yours to turn. If you find one false, say at which input.
  Laid BY PROGRAM, IN A SANDBOX (cutbox-rows.mjs): the forced cells as the released guide's own fill.sh prints them over the translation d4e578d09f12b12b… (all of the seat's roots in one cut). By AI agents, Wed Nov 11 2026. No macro, syntax, notation, axiom, sorry.
-/
import Derived.Test.YtbggmjnhfacjpaaChecked
import GoSem.Claim
import GoSem.ClaimJoined
import GoSem.ClaimMapViews
import Derived.JoinedTies
import Derived.KernelRfl
namespace Go.Proofs.Ytbggmjnhfacjpaa
/- THE CELL 'sum', in the pinned program and in every row, IS THE sha256 OF THE DUMP (.gsa) THAT YtbggmjnhfacjpaaProg.lean LOADS. Nothing in Lean hashes anything: it is a label: what it is worth is what the hold of that sum in a sandbox is worth. -/
noncomputable def Try.pinned : Pinned := { name := "ytbggmjnhfacjpaa", sum := "d4e578d09f12b12be2cc66883ce59d275596c27e5fabb70eae99177971cc960c", checked := Try.checked }
namespace Rows
def none {H : Type} : Left H := { results := [], args := [] }

/-- 'stagecoachlaw08.DedupLoads': WHATEVER THE INPUT: true; the input reads as it did. -/
def dedupLoadsSpec : ChangeSpec := { name := "dedupLoads", fn := fun _ => fun
  | [d1, d2, d3] => { results := [.lit (.bool true)], args := [d1, d2, d3] }
  | _ => none }
def dedupLoadsRow : OpenClaim := { program := "ytbggmjnhfacjpaa", sum := "d4e578d09f12b12be2cc66883ce59d275596c27e5fabb70eae99177971cc960c", func := "stagecoach/stagecoachlaw08.DedupLoads", spec := "dedupLoads", unfollowed := true, recurses := true, plainKeys := false, apart := false }
def DedupLoadsSaid : Prop := dedupLoadsRow.holds Try.pinned (OpenSpec.ofChange dedupLoadsSpec)

/-- ITS FALSE NEIGHBOUR: 'it returns false'. Refute it at one input. -/
def dedupLoadsWrong : ChangeSpec := { name := "dedupLoads", fn := fun _ => fun
  | [d1, d2, d3] => { results := [.lit (.bool false)], args := [d1, d2, d3] }
  | _ => none }
def DedupLoadsWrongFalsely : Prop := dedupLoadsRow.holds Try.pinned (OpenSpec.ofChange dedupLoadsWrong)

/-- 'stagecoachlaw08.DedupOnce': WHATEVER THE INPUT: true; the input reads as it did. -/
def dedupOnceSpec : ChangeSpec := { name := "dedupOnce", fn := fun _ => fun
  | [d1, d2] => { results := [.lit (.bool true)], args := [d1, d2] }
  | _ => none }
def dedupOnceRow : OpenClaim := { program := "ytbggmjnhfacjpaa", sum := "d4e578d09f12b12be2cc66883ce59d275596c27e5fabb70eae99177971cc960c", func := "stagecoach/stagecoachlaw08.DedupOnce", spec := "dedupOnce", unfollowed := true, recurses := true, plainKeys := false, apart := false }
def DedupOnceSaid : Prop := dedupOnceRow.holds Try.pinned (OpenSpec.ofChange dedupOnceSpec)

/-- ITS FALSE NEIGHBOUR: 'it returns false'. Refute it at one input. -/
def dedupOnceWrong : ChangeSpec := { name := "dedupOnce", fn := fun _ => fun
  | [d1, d2] => { results := [.lit (.bool false)], args := [d1, d2] }
  | _ => none }
def DedupOnceWrongFalsely : Prop := dedupOnceRow.holds Try.pinned (OpenSpec.ofChange dedupOnceWrong)

/-- 'stagecoachlaw08.DedupFences': WHATEVER THE INPUT: true; the input reads as it did. -/
def dedupFencesSpec : ChangeSpec := { name := "dedupFences", fn := fun _ => fun
  | [d1, d2, d3] => { results := [.lit (.bool true)], args := [d1, d2, d3] }
  | _ => none }
def dedupFencesRow : OpenClaim := { program := "ytbggmjnhfacjpaa", sum := "d4e578d09f12b12be2cc66883ce59d275596c27e5fabb70eae99177971cc960c", func := "stagecoach/stagecoachlaw08.DedupFences", spec := "dedupFences", unfollowed := true, recurses := true, plainKeys := false, apart := false }
def DedupFencesSaid : Prop := dedupFencesRow.holds Try.pinned (OpenSpec.ofChange dedupFencesSpec)

/-- ITS FALSE NEIGHBOUR: 'it returns false'. Refute it at one input. -/
def dedupFencesWrong : ChangeSpec := { name := "dedupFences", fn := fun _ => fun
  | [d1, d2, d3] => { results := [.lit (.bool false)], args := [d1, d2, d3] }
  | _ => none }
def DedupFencesWrongFalsely : Prop := dedupFencesRow.holds Try.pinned (OpenSpec.ofChange dedupFencesWrong)

/-- 'stagecoachlaw08.DedupApart': WHATEVER THE INPUT: true; the input reads as it did. -/
def dedupApartSpec : ChangeSpec := { name := "dedupApart", fn := fun _ => fun
  | [d1, d2] => { results := [.lit (.bool true)], args := [d1, d2] }
  | _ => none }
def dedupApartRow : OpenClaim := { program := "ytbggmjnhfacjpaa", sum := "d4e578d09f12b12be2cc66883ce59d275596c27e5fabb70eae99177971cc960c", func := "stagecoach/stagecoachlaw08.DedupApart", spec := "dedupApart", unfollowed := true, recurses := true, plainKeys := false, apart := false }
def DedupApartSaid : Prop := dedupApartRow.holds Try.pinned (OpenSpec.ofChange dedupApartSpec)

/-- ITS FALSE NEIGHBOUR: 'it returns false'. Refute it at one input. -/
def dedupApartWrong : ChangeSpec := { name := "dedupApart", fn := fun _ => fun
  | [d1, d2] => { results := [.lit (.bool false)], args := [d1, d2] }
  | _ => none }
def DedupApartWrongFalsely : Prop := dedupApartRow.holds Try.pinned (OpenSpec.ofChange dedupApartWrong)

/-- 'stagecoachlaw08.DedupTold': WHATEVER THE INPUT: true; the input reads as it did. -/
def dedupToldSpec : ChangeSpec := { name := "dedupTold", fn := fun _ => fun
  | [d] => { results := [.lit (.bool true)], args := [d] }
  | _ => none }
def dedupToldRow : OpenClaim := { program := "ytbggmjnhfacjpaa", sum := "d4e578d09f12b12be2cc66883ce59d275596c27e5fabb70eae99177971cc960c", func := "stagecoach/stagecoachlaw08.DedupTold", spec := "dedupTold", unfollowed := true, recurses := true, plainKeys := false, apart := false }
def DedupToldSaid : Prop := dedupToldRow.holds Try.pinned (OpenSpec.ofChange dedupToldSpec)

/-- ITS FALSE NEIGHBOUR: 'it returns false'. Refute it at one input. -/
def dedupToldWrong : ChangeSpec := { name := "dedupTold", fn := fun _ => fun
  | [d] => { results := [.lit (.bool false)], args := [d] }
  | _ => none }
def DedupToldWrongFalsely : Prop := dedupToldRow.holds Try.pinned (OpenSpec.ofChange dedupToldWrong)

/-- 'stagecoachlaw08.DedupDoes': WHATEVER THE INPUT: true; the input reads as it did. -/
def dedupDoesSpec : ChangeSpec := { name := "dedupDoes", fn := fun _ => fun
  | [d] => { results := [.lit (.bool true)], args := [d] }
  | _ => none }
def dedupDoesRow : OpenClaim := { program := "ytbggmjnhfacjpaa", sum := "d4e578d09f12b12be2cc66883ce59d275596c27e5fabb70eae99177971cc960c", func := "stagecoach/stagecoachlaw08.DedupDoes", spec := "dedupDoes", unfollowed := true, recurses := true, plainKeys := false, apart := false }
def DedupDoesSaid : Prop := dedupDoesRow.holds Try.pinned (OpenSpec.ofChange dedupDoesSpec)

/-- ITS FALSE NEIGHBOUR: 'it returns false'. Refute it at one input. -/
def dedupDoesWrong : ChangeSpec := { name := "dedupDoes", fn := fun _ => fun
  | [d] => { results := [.lit (.bool false)], args := [d] }
  | _ => none }
def DedupDoesWrongFalsely : Prop := dedupDoesRow.holds Try.pinned (OpenSpec.ofChange dedupDoesWrong)

/- THE SECOND FORM. 'bulk': how many values and letters a reading holds, each counted each time it is reached (what is shared counts as often as it is met; a slice's spare places count too). A statement '..UptoSaid' is the law's where the arguments, and the package variables that the reading takes, are together of bulk at most 1048576: NARROWER than '..Said'. Prove '..Said' where nothing that the law and all that it calls make is longer than what came in: it says more and counts as full. Else prove '..UptoSaid'. A law counts once. -/
mutual
def uptoBulk {H : Type} : DataW H → Nat
  | .lit (.string bytes) => bytes.length + 1
  | .lit _ => 1
  | .nil => 1
  | .ptr d => uptoBulk d + 1
  | .slice elems spare => uptoBulkAll elems + uptoBulkAll spare + 1
  | .agg parts => uptoBulkAll parts + 1
  | .iface _ d => uptoBulk d + 1
  | .map entries => uptoBulkEntries entries + 1
  | .held _ => 1
def uptoBulkAll {H : Type} : List (DataW H) → Nat
  | [] => 0
  | d :: r => uptoBulk d + uptoBulkAll r
def uptoBulkEntries {H : Type} : List (Lit × DataW H) → Nat
  | [] => 0
  | x :: r => uptoBulkEntry x + uptoBulkEntries r
def uptoBulkEntry {H : Type} : Lit × DataW H → Nat
  | (.string bytes, d) => bytes.length + uptoBulk d + 1
  | (_, d) => uptoBulk d + 1
 end
def uptoSmall : (H : Type) → List (DataW H) → Bool := fun _ ds => decide (uptoBulkAll ds ≤ 1048576)
def OpenSpec.upto (s : _root_.Go.ChangeSpec) : _root_.Go.OpenSpec := { _root_.Go.OpenSpec.ofChange s with cond := some uptoSmall }

/-- 'stagecoachlaw08.DedupLoads', WHERE WHAT IT READS IS OF BULK AT MOST 1048576: true; the input reads as it did. -/
def dedupLoadsUptoRow : OpenClaim := { program := "ytbggmjnhfacjpaa", sum := "d4e578d09f12b12be2cc66883ce59d275596c27e5fabb70eae99177971cc960c", func := "stagecoach/stagecoachlaw08.DedupLoads", spec := "dedupLoads", unfollowed := true, recurses := true, plainKeys := false, apart := false, narrowed := true }
def DedupLoadsUptoSaid : Prop := dedupLoadsUptoRow.holds Try.pinned (OpenSpec.upto dedupLoadsSpec)

/-- 'stagecoachlaw08.DedupOnce', WHERE WHAT IT READS IS OF BULK AT MOST 1048576: true; the input reads as it did. -/
def dedupOnceUptoRow : OpenClaim := { program := "ytbggmjnhfacjpaa", sum := "d4e578d09f12b12be2cc66883ce59d275596c27e5fabb70eae99177971cc960c", func := "stagecoach/stagecoachlaw08.DedupOnce", spec := "dedupOnce", unfollowed := true, recurses := true, plainKeys := false, apart := false, narrowed := true }
def DedupOnceUptoSaid : Prop := dedupOnceUptoRow.holds Try.pinned (OpenSpec.upto dedupOnceSpec)

/-- 'stagecoachlaw08.DedupFences', WHERE WHAT IT READS IS OF BULK AT MOST 1048576: true; the input reads as it did. -/
def dedupFencesUptoRow : OpenClaim := { program := "ytbggmjnhfacjpaa", sum := "d4e578d09f12b12be2cc66883ce59d275596c27e5fabb70eae99177971cc960c", func := "stagecoach/stagecoachlaw08.DedupFences", spec := "dedupFences", unfollowed := true, recurses := true, plainKeys := false, apart := false, narrowed := true }
def DedupFencesUptoSaid : Prop := dedupFencesUptoRow.holds Try.pinned (OpenSpec.upto dedupFencesSpec)

/-- 'stagecoachlaw08.DedupApart', WHERE WHAT IT READS IS OF BULK AT MOST 1048576: true; the input reads as it did. -/
def dedupApartUptoRow : OpenClaim := { program := "ytbggmjnhfacjpaa", sum := "d4e578d09f12b12be2cc66883ce59d275596c27e5fabb70eae99177971cc960c", func := "stagecoach/stagecoachlaw08.DedupApart", spec := "dedupApart", unfollowed := true, recurses := true, plainKeys := false, apart := false, narrowed := true }
def DedupApartUptoSaid : Prop := dedupApartUptoRow.holds Try.pinned (OpenSpec.upto dedupApartSpec)

/-- 'stagecoachlaw08.DedupTold', WHERE WHAT IT READS IS OF BULK AT MOST 1048576: true; the input reads as it did. -/
def dedupToldUptoRow : OpenClaim := { program := "ytbggmjnhfacjpaa", sum := "d4e578d09f12b12be2cc66883ce59d275596c27e5fabb70eae99177971cc960c", func := "stagecoach/stagecoachlaw08.DedupTold", spec := "dedupTold", unfollowed := true, recurses := true, plainKeys := false, apart := false, narrowed := true }
def DedupToldUptoSaid : Prop := dedupToldUptoRow.holds Try.pinned (OpenSpec.upto dedupToldSpec)

/-- 'stagecoachlaw08.DedupDoes', WHERE WHAT IT READS IS OF BULK AT MOST 1048576: true; the input reads as it did. -/
def dedupDoesUptoRow : OpenClaim := { program := "ytbggmjnhfacjpaa", sum := "d4e578d09f12b12be2cc66883ce59d275596c27e5fabb70eae99177971cc960c", func := "stagecoach/stagecoachlaw08.DedupDoes", spec := "dedupDoes", unfollowed := true, recurses := true, plainKeys := false, apart := false, narrowed := true }
def DedupDoesUptoSaid : Prop := dedupDoesUptoRow.holds Try.pinned (OpenSpec.upto dedupDoesSpec)

end Rows
end Go.Proofs.Ytbggmjnhfacjpaa
