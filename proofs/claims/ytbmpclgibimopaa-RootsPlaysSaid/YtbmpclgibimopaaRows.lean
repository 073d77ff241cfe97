/-
  No cell of these rows narrows 'for every input' (looked for: loops, veiled, ifaces, maps, wideKeys, modest, calm, conditions, laid).
  DERIVED. THE GIVEN ROWS OF THIS SEAT. 6 by the template 'for every input the law returns true; each argument reads behind the call as it read before'; 0 by the template 'total and deterministic' (their statements: YtbmpclgibimopaaTotals.lean).
  GIVEN WITH THE SEED: the statements are not yours to turn. If you find one false, say at which input.
  Laid BY PROGRAM, IN A SANDBOX (cutbox-rows.mjs): the forced cells as the released guide's own fill.sh prints them over the translation 4fcd75f347c71fc6… (all of the seat's roots in one cut). By AI agents, Wed Nov 11 2026. No macro, syntax, notation, axiom, sorry.
-/
import Derived.Test.YtbmpclgibimopaaChecked
import GoSem.Claim
import GoSem.ClaimJoined
import GoSem.ClaimMapViews
import Derived.JoinedTies
import Derived.KernelRfl
namespace Go.Proofs.Ytbmpclgibimopaa
/- THE CELL 'sum', in the pinned program and in every row, IS THE sha256 OF THE DUMP (.gsa) THAT YtbmpclgibimopaaProg.lean LOADS. Nothing in Lean hashes anything: it is a label: what it is worth is what the hold of that sum in a sandbox is worth. -/
noncomputable def Try.pinned : Pinned := { name := "ytbmpclgibimopaa", sum := "4fcd75f347c71fc601fa07b33ccf0b1b3720716b65f3bd40684be7c185c7c1c8", checked := Try.checked }
namespace Rows
def none {H : Type} : Left H := { results := [], args := [] }

/-- 'silhouettelaw18.RootsPlays': WHATEVER THE INPUT: true; the input reads as it did. -/
def rootsPlaysSpec : ChangeSpec := { name := "rootsPlays", fn := fun _ => fun
  | [d1, d2, d3] => { results := [.lit (.bool true)], args := [d1, d2, d3] }
  | _ => none }
def rootsPlaysRow : OpenClaim := { program := "ytbmpclgibimopaa", sum := "4fcd75f347c71fc601fa07b33ccf0b1b3720716b65f3bd40684be7c185c7c1c8", func := "silhouette/silhouettelaw18.RootsPlays", spec := "rootsPlays", unfollowed := true, recurses := true, apart := false }
def RootsPlaysSaid : Prop := rootsPlaysRow.holds Try.pinned (OpenSpec.ofChange rootsPlaysSpec)

/-- ITS FALSE NEIGHBOUR: 'it returns false'. Refute it at one input. -/
def rootsPlaysWrong : ChangeSpec := { name := "rootsPlays", fn := fun _ => fun
  | [d1, d2, d3] => { results := [.lit (.bool false)], args := [d1, d2, d3] }
  | _ => none }
def RootsPlaysWrongFalsely : Prop := rootsPlaysRow.holds Try.pinned (OpenSpec.ofChange rootsPlaysWrong)

/-- 'silhouettelaw18.RootsOne': WHATEVER THE INPUT: true; the input reads as it did. -/
def rootsOneSpec : ChangeSpec := { name := "rootsOne", fn := fun _ => fun
  | [d1, d2] => { results := [.lit (.bool true)], args := [d1, d2] }
  | _ => none }
def rootsOneRow : OpenClaim := { program := "ytbmpclgibimopaa", sum := "4fcd75f347c71fc601fa07b33ccf0b1b3720716b65f3bd40684be7c185c7c1c8", func := "silhouette/silhouettelaw18.RootsOne", spec := "rootsOne", unfollowed := true, recurses := true, apart := false }
def RootsOneSaid : Prop := rootsOneRow.holds Try.pinned (OpenSpec.ofChange rootsOneSpec)

/-- ITS FALSE NEIGHBOUR: 'it returns false'. Refute it at one input. -/
def rootsOneWrong : ChangeSpec := { name := "rootsOne", fn := fun _ => fun
  | [d1, d2] => { results := [.lit (.bool false)], args := [d1, d2] }
  | _ => none }
def RootsOneWrongFalsely : Prop := rootsOneRow.holds Try.pinned (OpenSpec.ofChange rootsOneWrong)

/-- 'silhouettelaw18.RootsLately': WHATEVER THE INPUT: true; the input reads as it did. -/
def rootsLatelySpec : ChangeSpec := { name := "rootsLately", fn := fun _ => fun
  | [d1, d2] => { results := [.lit (.bool true)], args := [d1, d2] }
  | _ => none }
def rootsLatelyRow : OpenClaim := { program := "ytbmpclgibimopaa", sum := "4fcd75f347c71fc601fa07b33ccf0b1b3720716b65f3bd40684be7c185c7c1c8", func := "silhouette/silhouettelaw18.RootsLately", spec := "rootsLately", unfollowed := true, recurses := true, apart := false }
def RootsLatelySaid : Prop := rootsLatelyRow.holds Try.pinned (OpenSpec.ofChange rootsLatelySpec)

/-- ITS FALSE NEIGHBOUR: 'it returns false'. Refute it at one input. -/
def rootsLatelyWrong : ChangeSpec := { name := "rootsLately", fn := fun _ => fun
  | [d1, d2] => { results := [.lit (.bool false)], args := [d1, d2] }
  | _ => none }
def RootsLatelyWrongFalsely : Prop := rootsLatelyRow.holds Try.pinned (OpenSpec.ofChange rootsLatelyWrong)

/-- 'silhouettelaw18.RootsFew': WHATEVER THE INPUT: true; the input reads as it did. -/
def rootsFewSpec : ChangeSpec := { name := "rootsFew", fn := fun _ => fun
  | [d1, d2] => { results := [.lit (.bool true)], args := [d1, d2] }
  | _ => none }
def rootsFewRow : OpenClaim := { program := "ytbmpclgibimopaa", sum := "4fcd75f347c71fc601fa07b33ccf0b1b3720716b65f3bd40684be7c185c7c1c8", func := "silhouette/silhouettelaw18.RootsFew", spec := "rootsFew", unfollowed := true, recurses := true, apart := false }
def RootsFewSaid : Prop := rootsFewRow.holds Try.pinned (OpenSpec.ofChange rootsFewSpec)

/-- ITS FALSE NEIGHBOUR: 'it returns false'. Refute it at one input. -/
def rootsFewWrong : ChangeSpec := { name := "rootsFew", fn := fun _ => fun
  | [d1, d2] => { results := [.lit (.bool false)], args := [d1, d2] }
  | _ => none }
def RootsFewWrongFalsely : Prop := rootsFewRow.holds Try.pinned (OpenSpec.ofChange rootsFewWrong)

/-- 'silhouettelaw18.RootsUsed': WHATEVER THE INPUT: true; the input reads as it did. -/
def rootsUsedSpec : ChangeSpec := { name := "rootsUsed", fn := fun _ => fun
  | [d1, d2, d3] => { results := [.lit (.bool true)], args := [d1, d2, d3] }
  | _ => none }
def rootsUsedRow : OpenClaim := { program := "ytbmpclgibimopaa", sum := "4fcd75f347c71fc601fa07b33ccf0b1b3720716b65f3bd40684be7c185c7c1c8", func := "silhouette/silhouettelaw18.RootsUsed", spec := "rootsUsed", unfollowed := true, recurses := true, apart := false }
def RootsUsedSaid : Prop := rootsUsedRow.holds Try.pinned (OpenSpec.ofChange rootsUsedSpec)

/-- ITS FALSE NEIGHBOUR: 'it returns false'. Refute it at one input. -/
def rootsUsedWrong : ChangeSpec := { name := "rootsUsed", fn := fun _ => fun
  | [d1, d2, d3] => { results := [.lit (.bool false)], args := [d1, d2, d3] }
  | _ => none }
def RootsUsedWrongFalsely : Prop := rootsUsedRow.holds Try.pinned (OpenSpec.ofChange rootsUsedWrong)

/-- 'silhouettelaw18.RootsRow': WHATEVER THE INPUT: true; the input reads as it did. -/
def rootsRowSpec : ChangeSpec := { name := "rootsRow", fn := fun _ => fun
  | [d] => { results := [.lit (.bool true)], args := [d] }
  | _ => none }
def rootsRowRow : OpenClaim := { program := "ytbmpclgibimopaa", sum := "4fcd75f347c71fc601fa07b33ccf0b1b3720716b65f3bd40684be7c185c7c1c8", func := "silhouette/silhouettelaw18.RootsRow", spec := "rootsRow", unfollowed := true, recurses := true, apart := false }
def RootsRowSaid : Prop := rootsRowRow.holds Try.pinned (OpenSpec.ofChange rootsRowSpec)

/-- ITS FALSE NEIGHBOUR: 'it returns false'. Refute it at one input. -/
def rootsRowWrong : ChangeSpec := { name := "rootsRow", fn := fun _ => fun
  | [d] => { results := [.lit (.bool false)], args := [d] }
  | _ => none }
def RootsRowWrongFalsely : Prop := rootsRowRow.holds Try.pinned (OpenSpec.ofChange rootsRowWrong)

/- THE SECOND FORM. 'bulk': how many values and letters a reading holds, each counted each time it is reached (what is shared counts as often as it is met; a slice's spare places count too). A statement '..UptoSaid' is the law's where the arguments, and the package variables that the reading takes, are together of bulk at most 1048576: NARROWER than '..Said'. Prove '..Said' where nothing that the law and all that it calls make is longer than what came in: it says more and counts as full. Else prove '..UptoSaid'. A law counts once. -/
mutual
def uptoBulk {H : Type} : DataW H → Nat
  | .lit (.string bytes) => bytes.length + 1
  | .lit _ => 1
  | .nil => 1
  | .ptr d => uptoBulk d + 1
  | .slice elems spare => uptoBulkAll elems + uptoBulkAll spare + 1
  | .agg parts => uptoBulkAll parts + 1
  | .iface _ d => uptoBulk d + 1
  | .map entries => uptoBulkEntries entries + 1
  | .held _ => 1
def uptoBulkAll {H : Type} : List (DataW H) → Nat
  | [] => 0
  | d :: r => uptoBulk d + uptoBulkAll r
def uptoBulkEntries {H : Type} : List (Lit × DataW H) → Nat
  | [] => 0
  | x :: r => uptoBulkEntry x + uptoBulkEntries r
def uptoBulkEntry {H : Type} : Lit × DataW H → Nat
  | (.string bytes, d) => bytes.length + uptoBulk d + 1
  | (_, d) => uptoBulk d + 1
 end
def uptoSmall : (H : Type) → List (DataW H) → Bool := fun _ ds => decide (uptoBulkAll ds ≤ 1048576)
def OpenSpec.upto (s : _root_.Go.ChangeSpec) : _root_.Go.OpenSpec := { _root_.Go.OpenSpec.ofChange s with cond := some uptoSmall }

/-- 'silhouettelaw18.RootsPlays', WHERE WHAT IT READS IS OF BULK AT MOST 1048576: true; the input reads as it did. -/
def rootsPlaysUptoRow : OpenClaim := { program := "ytbmpclgibimopaa", sum := "4fcd75f347c71fc601fa07b33ccf0b1b3720716b65f3bd40684be7c185c7c1c8", func := "silhouette/silhouettelaw18.RootsPlays", spec := "rootsPlays", unfollowed := true, recurses := true, apart := false, narrowed := true }
def RootsPlaysUptoSaid : Prop := rootsPlaysUptoRow.holds Try.pinned (OpenSpec.upto rootsPlaysSpec)

/-- 'silhouettelaw18.RootsOne', WHERE WHAT IT READS IS OF BULK AT MOST 1048576: true; the input reads as it did. -/
def rootsOneUptoRow : OpenClaim := { program := "ytbmpclgibimopaa", sum := "4fcd75f347c71fc601fa07b33ccf0b1b3720716b65f3bd40684be7c185c7c1c8", func := "silhouette/silhouettelaw18.RootsOne", spec := "rootsOne", unfollowed := true, recurses := true, apart := false, narrowed := true }
def RootsOneUptoSaid : Prop := rootsOneUptoRow.holds Try.pinned (OpenSpec.upto rootsOneSpec)

/-- 'silhouettelaw18.RootsLately', WHERE WHAT IT READS IS OF BULK AT MOST 1048576: true; the input reads as it did. -/
def rootsLatelyUptoRow : OpenClaim := { program := "ytbmpclgibimopaa", sum := "4fcd75f347c71fc601fa07b33ccf0b1b3720716b65f3bd40684be7c185c7c1c8", func := "silhouette/silhouettelaw18.RootsLately", spec := "rootsLately", unfollowed := true, recurses := true, apart := false, narrowed := true }
def RootsLatelyUptoSaid : Prop := rootsLatelyUptoRow.holds Try.pinned (OpenSpec.upto rootsLatelySpec)

/-- 'silhouettelaw18.RootsFew', WHERE WHAT IT READS IS OF BULK AT MOST 1048576: true; the input reads as it did. -/
def rootsFewUptoRow : OpenClaim := { program := "ytbmpclgibimopaa", sum := "4fcd75f347c71fc601fa07b33ccf0b1b3720716b65f3bd40684be7c185c7c1c8", func := "silhouette/silhouettelaw18.RootsFew", spec := "rootsFew", unfollowed := true, recurses := true, apart := false, narrowed := true }
def RootsFewUptoSaid : Prop := rootsFewUptoRow.holds Try.pinned (OpenSpec.upto rootsFewSpec)

/-- 'silhouettelaw18.RootsUsed', WHERE WHAT IT READS IS OF BULK AT MOST 1048576: true; the input reads as it did. -/
def rootsUsedUptoRow : OpenClaim := { program := "ytbmpclgibimopaa", sum := "4fcd75f347c71fc601fa07b33ccf0b1b3720716b65f3bd40684be7c185c7c1c8", func := "silhouette/silhouettelaw18.RootsUsed", spec := "rootsUsed", unfollowed := true, recurses := true, apart := false, narrowed := true }
def RootsUsedUptoSaid : Prop := rootsUsedUptoRow.holds Try.pinned (OpenSpec.upto rootsUsedSpec)

/-- 'silhouettelaw18.RootsRow', WHERE WHAT IT READS IS OF BULK AT MOST 1048576: true; the input reads as it did. -/
def rootsRowUptoRow : OpenClaim := { program := "ytbmpclgibimopaa", sum := "4fcd75f347c71fc601fa07b33ccf0b1b3720716b65f3bd40684be7c185c7c1c8", func := "silhouette/silhouettelaw18.RootsRow", spec := "rootsRow", unfollowed := true, recurses := true, apart := false, narrowed := true }
def RootsRowUptoSaid : Prop := rootsRowUptoRow.holds Try.pinned (OpenSpec.upto rootsRowSpec)

end Rows
end Go.Proofs.Ytbmpclgibimopaa
