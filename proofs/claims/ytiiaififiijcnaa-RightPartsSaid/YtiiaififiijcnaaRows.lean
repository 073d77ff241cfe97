/-
  No cell of these rows narrows 'for every input' (looked for: loops, veiled, ifaces, maps, wideKeys, modest, calm, conditions, laid).
  DERIVED. THE GIVEN ROWS OF THIS SEAT. 7 by the template 'for every input the law returns true; each argument reads behind the call as it read before'; 0 by the template 'total and deterministic' (their statements: YtiiaififiijcnaaTotals.lean).
  GIVEN WITH THE SEED: the statements are not yours to turn. If you find one false, say at which input.
  Laid BY PROGRAM, IN A SANDBOX (cutbox-rows.mjs): the forced cells as the released guide's own fill.sh prints them over the translation b2229a8042d5a60b… (all of the seat's roots in one cut). By AI agents, Wed Nov 11 2026. No macro, syntax, notation, axiom, sorry.
-/
import Derived.Test.YtiiaififiijcnaaChecked
import GoSem.Claim
import GoSem.ClaimJoined
import GoSem.ClaimMapViews
import Derived.JoinedTies
import Derived.KernelRfl
namespace Go.Proofs.Ytiiaififiijcnaa
/- THE CELL 'sum', in the pinned program and in every row, IS THE sha256 OF THE DUMP (.gsa) THAT YtiiaififiijcnaaProg.lean LOADS. Nothing in Lean hashes anything: it is a label: what it is worth is what the hold of that sum in a sandbox is worth. -/
noncomputable def Try.pinned : Pinned := { name := "ytiiaififiijcnaa", sum := "b2229a8042d5a60b64c2e4de2c0dfda1981eeb754920c8bd2e37253dd78d35f9", checked := Try.checked }
namespace Rows
def none {H : Type} : Left H := { results := [], args := [] }

/-- 'silhouettelaw06.RightTells': WHATEVER THE INPUT: true; the input reads as it did. -/
def rightTellsSpec : ChangeSpec := { name := "rightTells", fn := fun _ => fun
  | [d1, d2, d3, d4, d5, d6, d7, d8] => { results := [.lit (.bool true)], args := [d1, d2, d3, d4, d5, d6, d7, d8] }
  | _ => none }
def rightTellsRow : OpenClaim := { program := "ytiiaififiijcnaa", sum := "b2229a8042d5a60b64c2e4de2c0dfda1981eeb754920c8bd2e37253dd78d35f9", func := "silhouette/silhouettelaw06.RightTells", spec := "rightTells", apart := false }
def RightTellsSaid : Prop := rightTellsRow.holds Try.pinned (OpenSpec.ofChange rightTellsSpec)

/-- ITS FALSE NEIGHBOUR: 'it returns false'. Refute it at one input. -/
def rightTellsWrong : ChangeSpec := { name := "rightTells", fn := fun _ => fun
  | [d1, d2, d3, d4, d5, d6, d7, d8] => { results := [.lit (.bool false)], args := [d1, d2, d3, d4, d5, d6, d7, d8] }
  | _ => none }
def RightTellsWrongFalsely : Prop := rightTellsRow.holds Try.pinned (OpenSpec.ofChange rightTellsWrong)

/-- 'silhouettelaw06.RightMeet': WHATEVER THE INPUT: true; the input reads as it did. -/
def rightMeetSpec : ChangeSpec := { name := "rightMeet", fn := fun _ => fun
  | [d1, d2] => { results := [.lit (.bool true)], args := [d1, d2] }
  | _ => none }
def rightMeetRow : OpenClaim := { program := "ytiiaififiijcnaa", sum := "b2229a8042d5a60b64c2e4de2c0dfda1981eeb754920c8bd2e37253dd78d35f9", func := "silhouette/silhouettelaw06.RightMeet", spec := "rightMeet", apart := false }
def RightMeetSaid : Prop := rightMeetRow.holds Try.pinned (OpenSpec.ofChange rightMeetSpec)

/-- ITS FALSE NEIGHBOUR: 'it returns false'. Refute it at one input. -/
def rightMeetWrong : ChangeSpec := { name := "rightMeet", fn := fun _ => fun
  | [d1, d2] => { results := [.lit (.bool false)], args := [d1, d2] }
  | _ => none }
def RightMeetWrongFalsely : Prop := rightMeetRow.holds Try.pinned (OpenSpec.ofChange rightMeetWrong)

/-- 'silhouettelaw06.RightMore': WHATEVER THE INPUT: true; the input reads as it did. -/
def rightMoreSpec : ChangeSpec := { name := "rightMore", fn := fun _ => fun
  | [d1, d2, d3] => { results := [.lit (.bool true)], args := [d1, d2, d3] }
  | _ => none }
def rightMoreRow : OpenClaim := { program := "ytiiaififiijcnaa", sum := "b2229a8042d5a60b64c2e4de2c0dfda1981eeb754920c8bd2e37253dd78d35f9", func := "silhouette/silhouettelaw06.RightMore", spec := "rightMore", apart := false }
def RightMoreSaid : Prop := rightMoreRow.holds Try.pinned (OpenSpec.ofChange rightMoreSpec)

/-- ITS FALSE NEIGHBOUR: 'it returns false'. Refute it at one input. -/
def rightMoreWrong : ChangeSpec := { name := "rightMore", fn := fun _ => fun
  | [d1, d2, d3] => { results := [.lit (.bool false)], args := [d1, d2, d3] }
  | _ => none }
def RightMoreWrongFalsely : Prop := rightMoreRow.holds Try.pinned (OpenSpec.ofChange rightMoreWrong)

/-- 'silhouettelaw06.RightOrder': WHATEVER THE INPUT: true; the input reads as it did. -/
def rightOrderSpec : ChangeSpec := { name := "rightOrder", fn := fun _ => fun
  | [d1, d2, d3] => { results := [.lit (.bool true)], args := [d1, d2, d3] }
  | _ => none }
def rightOrderRow : OpenClaim := { program := "ytiiaififiijcnaa", sum := "b2229a8042d5a60b64c2e4de2c0dfda1981eeb754920c8bd2e37253dd78d35f9", func := "silhouette/silhouettelaw06.RightOrder", spec := "rightOrder", apart := false }
def RightOrderSaid : Prop := rightOrderRow.holds Try.pinned (OpenSpec.ofChange rightOrderSpec)

/-- ITS FALSE NEIGHBOUR: 'it returns false'. Refute it at one input. -/
def rightOrderWrong : ChangeSpec := { name := "rightOrder", fn := fun _ => fun
  | [d1, d2, d3] => { results := [.lit (.bool false)], args := [d1, d2, d3] }
  | _ => none }
def RightOrderWrongFalsely : Prop := rightOrderRow.holds Try.pinned (OpenSpec.ofChange rightOrderWrong)

/-- 'silhouettelaw06.RightCodes': WHATEVER THE INPUT: true; the input reads as it did. -/
def rightCodesSpec : ChangeSpec := { name := "rightCodes", fn := fun _ => fun
  | [d1, d2, d3, d4] => { results := [.lit (.bool true)], args := [d1, d2, d3, d4] }
  | _ => none }
def rightCodesRow : OpenClaim := { program := "ytiiaififiijcnaa", sum := "b2229a8042d5a60b64c2e4de2c0dfda1981eeb754920c8bd2e37253dd78d35f9", func := "silhouette/silhouettelaw06.RightCodes", spec := "rightCodes", apart := false }
def RightCodesSaid : Prop := rightCodesRow.holds Try.pinned (OpenSpec.ofChange rightCodesSpec)

/-- ITS FALSE NEIGHBOUR: 'it returns false'. Refute it at one input. -/
def rightCodesWrong : ChangeSpec := { name := "rightCodes", fn := fun _ => fun
  | [d1, d2, d3, d4] => { results := [.lit (.bool false)], args := [d1, d2, d3, d4] }
  | _ => none }
def RightCodesWrongFalsely : Prop := rightCodesRow.holds Try.pinned (OpenSpec.ofChange rightCodesWrong)

/-- 'silhouettelaw06.RightParts': WHATEVER THE INPUT: true; the input reads as it did. -/
def rightPartsSpec : ChangeSpec := { name := "rightParts", fn := fun _ => fun
  | [d1, d2, d3, d4] => { results := [.lit (.bool true)], args := [d1, d2, d3, d4] }
  | _ => none }
def rightPartsRow : OpenClaim := { program := "ytiiaififiijcnaa", sum := "b2229a8042d5a60b64c2e4de2c0dfda1981eeb754920c8bd2e37253dd78d35f9", func := "silhouette/silhouettelaw06.RightParts", spec := "rightParts", apart := false }
def RightPartsSaid : Prop := rightPartsRow.holds Try.pinned (OpenSpec.ofChange rightPartsSpec)

/-- ITS FALSE NEIGHBOUR: 'it returns false'. Refute it at one input. -/
def rightPartsWrong : ChangeSpec := { name := "rightParts", fn := fun _ => fun
  | [d1, d2, d3, d4] => { results := [.lit (.bool false)], args := [d1, d2, d3, d4] }
  | _ => none }
def RightPartsWrongFalsely : Prop := rightPartsRow.holds Try.pinned (OpenSpec.ofChange rightPartsWrong)

/-- 'silhouettelaw06.RightUsers': WHATEVER THE INPUT: true; the input reads as it did. -/
def rightUsersSpec : ChangeSpec := { name := "rightUsers", fn := fun _ => fun
  | [d] => { results := [.lit (.bool true)], args := [d] }
  | _ => none }
def rightUsersRow : OpenClaim := { program := "ytiiaififiijcnaa", sum := "b2229a8042d5a60b64c2e4de2c0dfda1981eeb754920c8bd2e37253dd78d35f9", func := "silhouette/silhouettelaw06.RightUsers", spec := "rightUsers", apart := false }
def RightUsersSaid : Prop := rightUsersRow.holds Try.pinned (OpenSpec.ofChange rightUsersSpec)

/-- ITS FALSE NEIGHBOUR: 'it returns false'. Refute it at one input. -/
def rightUsersWrong : ChangeSpec := { name := "rightUsers", fn := fun _ => fun
  | [d] => { results := [.lit (.bool false)], args := [d] }
  | _ => none }
def RightUsersWrongFalsely : Prop := rightUsersRow.holds Try.pinned (OpenSpec.ofChange rightUsersWrong)

/- THE SECOND FORM. 'bulk': how many values and letters a reading holds, each counted each time it is reached (what is shared counts as often as it is met; a slice's spare places count too). A statement '..UptoSaid' is the law's where the arguments, and the package variables that the reading takes, are together of bulk at most 1048576: NARROWER than '..Said'. Prove '..Said' where nothing that the law and all that it calls make is longer than what came in: it says more and counts as full. Else prove '..UptoSaid'. A law counts once. -/
mutual
def uptoBulk {H : Type} : DataW H → Nat
  | .lit (.string bytes) => bytes.length + 1
  | .lit _ => 1
  | .nil => 1
  | .ptr d => uptoBulk d + 1
  | .slice elems spare => uptoBulkAll elems + uptoBulkAll spare + 1
  | .agg parts => uptoBulkAll parts + 1
  | .iface _ d => uptoBulk d + 1
  | .map entries => uptoBulkEntries entries + 1
  | .held _ => 1
def uptoBulkAll {H : Type} : List (DataW H) → Nat
  | [] => 0
  | d :: r => uptoBulk d + uptoBulkAll r
def uptoBulkEntries {H : Type} : List (Lit × DataW H) → Nat
  | [] => 0
  | x :: r => uptoBulkEntry x + uptoBulkEntries r
def uptoBulkEntry {H : Type} : Lit × DataW H → Nat
  | (.string bytes, d) => bytes.length + uptoBulk d + 1
  | (_, d) => uptoBulk d + 1
 end
def uptoSmall : (H : Type) → List (DataW H) → Bool := fun _ ds => decide (uptoBulkAll ds ≤ 1048576)
def OpenSpec.upto (s : _root_.Go.ChangeSpec) : _root_.Go.OpenSpec := { _root_.Go.OpenSpec.ofChange s with cond := some uptoSmall }

/-- 'silhouettelaw06.RightTells', WHERE WHAT IT READS IS OF BULK AT MOST 1048576: true; the input reads as it did. -/
def rightTellsUptoRow : OpenClaim := { program := "ytiiaififiijcnaa", sum := "b2229a8042d5a60b64c2e4de2c0dfda1981eeb754920c8bd2e37253dd78d35f9", func := "silhouette/silhouettelaw06.RightTells", spec := "rightTells", apart := false, narrowed := true }
def RightTellsUptoSaid : Prop := rightTellsUptoRow.holds Try.pinned (OpenSpec.upto rightTellsSpec)

/-- 'silhouettelaw06.RightMeet', WHERE WHAT IT READS IS OF BULK AT MOST 1048576: true; the input reads as it did. -/
def rightMeetUptoRow : OpenClaim := { program := "ytiiaififiijcnaa", sum := "b2229a8042d5a60b64c2e4de2c0dfda1981eeb754920c8bd2e37253dd78d35f9", func := "silhouette/silhouettelaw06.RightMeet", spec := "rightMeet", apart := false, narrowed := true }
def RightMeetUptoSaid : Prop := rightMeetUptoRow.holds Try.pinned (OpenSpec.upto rightMeetSpec)

/-- 'silhouettelaw06.RightMore', WHERE WHAT IT READS IS OF BULK AT MOST 1048576: true; the input reads as it did. -/
def rightMoreUptoRow : OpenClaim := { program := "ytiiaififiijcnaa", sum := "b2229a8042d5a60b64c2e4de2c0dfda1981eeb754920c8bd2e37253dd78d35f9", func := "silhouette/silhouettelaw06.RightMore", spec := "rightMore", apart := false, narrowed := true }
def RightMoreUptoSaid : Prop := rightMoreUptoRow.holds Try.pinned (OpenSpec.upto rightMoreSpec)

/-- 'silhouettelaw06.RightOrder', WHERE WHAT IT READS IS OF BULK AT MOST 1048576: true; the input reads as it did. -/
def rightOrderUptoRow : OpenClaim := { program := "ytiiaififiijcnaa", sum := "b2229a8042d5a60b64c2e4de2c0dfda1981eeb754920c8bd2e37253dd78d35f9", func := "silhouette/silhouettelaw06.RightOrder", spec := "rightOrder", apart := false, narrowed := true }
def RightOrderUptoSaid : Prop := rightOrderUptoRow.holds Try.pinned (OpenSpec.upto rightOrderSpec)

/-- 'silhouettelaw06.RightCodes', WHERE WHAT IT READS IS OF BULK AT MOST 1048576: true; the input reads as it did. -/
def rightCodesUptoRow : OpenClaim := { program := "ytiiaififiijcnaa", sum := "b2229a8042d5a60b64c2e4de2c0dfda1981eeb754920c8bd2e37253dd78d35f9", func := "silhouette/silhouettelaw06.RightCodes", spec := "rightCodes", apart := false, narrowed := true }
def RightCodesUptoSaid : Prop := rightCodesUptoRow.holds Try.pinned (OpenSpec.upto rightCodesSpec)

/-- 'silhouettelaw06.RightParts', WHERE WHAT IT READS IS OF BULK AT MOST 1048576: true; the input reads as it did. -/
def rightPartsUptoRow : OpenClaim := { program := "ytiiaififiijcnaa", sum := "b2229a8042d5a60b64c2e4de2c0dfda1981eeb754920c8bd2e37253dd78d35f9", func := "silhouette/silhouettelaw06.RightParts", spec := "rightParts", apart := false, narrowed := true }
def RightPartsUptoSaid : Prop := rightPartsUptoRow.holds Try.pinned (OpenSpec.upto rightPartsSpec)

/-- 'silhouettelaw06.RightUsers', WHERE WHAT IT READS IS OF BULK AT MOST 1048576: true; the input reads as it did. -/
def rightUsersUptoRow : OpenClaim := { program := "ytiiaififiijcnaa", sum := "b2229a8042d5a60b64c2e4de2c0dfda1981eeb754920c8bd2e37253dd78d35f9", func := "silhouette/silhouettelaw06.RightUsers", spec := "rightUsers", apart := false, narrowed := true }
def RightUsersUptoSaid : Prop := rightUsersUptoRow.holds Try.pinned (OpenSpec.upto rightUsersSpec)

end Rows
end Go.Proofs.Ytiiaififiijcnaa
