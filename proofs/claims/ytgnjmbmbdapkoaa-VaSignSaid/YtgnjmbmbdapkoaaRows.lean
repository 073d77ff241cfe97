/-
  No cell of these rows narrows 'for every input' (looked for: loops, veiled, ifaces, maps, wideKeys, modest, calm, conditions, laid).
  DERIVED. THE GIVEN ROWS OF THIS SEAT. 6 by the template 'for every input the law returns true; each argument reads behind the call as it read before'; 0 by the template 'total and deterministic' (their statements: YtgnjmbmbdapkoaaTotals.lean).
  GIVEN WITH THE SEED: the statements are not yours to turn. If you find one false, say at which input.
  Laid BY PROGRAM, IN A SANDBOX (cutbox-rows.mjs): the forced cells as the released guide's own fill.sh prints them over the translation 69fb975abec945c9… (all of the seat's roots in one cut). By AI agents, Wed Nov 11 2026. No macro, syntax, notation, axiom, sorry.
-/
import Derived.Test.YtgnjmbmbdapkoaaChecked
import GoSem.Claim
import GoSem.ClaimJoined
import GoSem.ClaimMapViews
import Derived.JoinedTies
import Derived.KernelRfl
namespace Go.Proofs.Ytgnjmbmbdapkoaa
/- THE CELL 'sum', in the pinned program and in every row, IS THE sha256 OF THE DUMP (.gsa) THAT YtgnjmbmbdapkoaaProg.lean LOADS. Nothing in Lean hashes anything: it is a label: what it is worth is what the hold of that sum in a sandbox is worth. -/
noncomputable def Try.pinned : Pinned := { name := "ytgnjmbmbdapkoaa", sum := "69fb975abec945c9c76080877ffa989d5477ec1b0196164e399185364b25a695", checked := Try.checked }
namespace Rows
def none {H : Type} : Left H := { results := [], args := [] }

/-- 'silhouettelaw05.VaTells': WHATEVER THE INPUT: true; the input reads as it did. -/
def vaTellsSpec : ChangeSpec := { name := "vaTells", fn := fun _ => fun
  | [d1, d2, d3, d4] => { results := [.lit (.bool true)], args := [d1, d2, d3, d4] }
  | _ => none }
def vaTellsRow : OpenClaim := { program := "ytgnjmbmbdapkoaa", sum := "69fb975abec945c9c76080877ffa989d5477ec1b0196164e399185364b25a695", func := "silhouette/silhouettelaw05.VaTells", spec := "vaTells", apart := false }
def VaTellsSaid : Prop := vaTellsRow.holds Try.pinned (OpenSpec.ofChange vaTellsSpec)

/-- ITS FALSE NEIGHBOUR: 'it returns false'. Refute it at one input. -/
def vaTellsWrong : ChangeSpec := { name := "vaTells", fn := fun _ => fun
  | [d1, d2, d3, d4] => { results := [.lit (.bool false)], args := [d1, d2, d3, d4] }
  | _ => none }
def VaTellsWrongFalsely : Prop := vaTellsRow.holds Try.pinned (OpenSpec.ofChange vaTellsWrong)

/-- 'silhouettelaw05.VaBack': WHATEVER THE INPUT: true; the input reads as it did. -/
def vaBackSpec : ChangeSpec := { name := "vaBack", fn := fun _ => fun
  | [d1, d2, d3] => { results := [.lit (.bool true)], args := [d1, d2, d3] }
  | _ => none }
def vaBackRow : OpenClaim := { program := "ytgnjmbmbdapkoaa", sum := "69fb975abec945c9c76080877ffa989d5477ec1b0196164e399185364b25a695", func := "silhouette/silhouettelaw05.VaBack", spec := "vaBack", apart := false }
def VaBackSaid : Prop := vaBackRow.holds Try.pinned (OpenSpec.ofChange vaBackSpec)

/-- ITS FALSE NEIGHBOUR: 'it returns false'. Refute it at one input. -/
def vaBackWrong : ChangeSpec := { name := "vaBack", fn := fun _ => fun
  | [d1, d2, d3] => { results := [.lit (.bool false)], args := [d1, d2, d3] }
  | _ => none }
def VaBackWrongFalsely : Prop := vaBackRow.holds Try.pinned (OpenSpec.ofChange vaBackWrong)

/-- 'silhouettelaw05.VaPlaces': WHATEVER THE INPUT: true; the input reads as it did. -/
def vaPlacesSpec : ChangeSpec := { name := "vaPlaces", fn := fun _ => fun
  | [d1, d2] => { results := [.lit (.bool true)], args := [d1, d2] }
  | _ => none }
def vaPlacesRow : OpenClaim := { program := "ytgnjmbmbdapkoaa", sum := "69fb975abec945c9c76080877ffa989d5477ec1b0196164e399185364b25a695", func := "silhouette/silhouettelaw05.VaPlaces", spec := "vaPlaces", apart := false }
def VaPlacesSaid : Prop := vaPlacesRow.holds Try.pinned (OpenSpec.ofChange vaPlacesSpec)

/-- ITS FALSE NEIGHBOUR: 'it returns false'. Refute it at one input. -/
def vaPlacesWrong : ChangeSpec := { name := "vaPlaces", fn := fun _ => fun
  | [d1, d2] => { results := [.lit (.bool false)], args := [d1, d2] }
  | _ => none }
def VaPlacesWrongFalsely : Prop := vaPlacesRow.holds Try.pinned (OpenSpec.ofChange vaPlacesWrong)

/-- 'silhouettelaw05.VaSign': WHATEVER THE INPUT: true; the input reads as it did. -/
def vaSignSpec : ChangeSpec := { name := "vaSign", fn := fun _ => fun
  | [d1, d2] => { results := [.lit (.bool true)], args := [d1, d2] }
  | _ => none }
def vaSignRow : OpenClaim := { program := "ytgnjmbmbdapkoaa", sum := "69fb975abec945c9c76080877ffa989d5477ec1b0196164e399185364b25a695", func := "silhouette/silhouettelaw05.VaSign", spec := "vaSign", apart := false }
def VaSignSaid : Prop := vaSignRow.holds Try.pinned (OpenSpec.ofChange vaSignSpec)

/-- ITS FALSE NEIGHBOUR: 'it returns false'. Refute it at one input. -/
def vaSignWrong : ChangeSpec := { name := "vaSign", fn := fun _ => fun
  | [d1, d2] => { results := [.lit (.bool false)], args := [d1, d2] }
  | _ => none }
def VaSignWrongFalsely : Prop := vaSignRow.holds Try.pinned (OpenSpec.ofChange vaSignWrong)

/-- 'silhouettelaw05.VaNext': WHATEVER THE INPUT: true; the input reads as it did. -/
def vaNextSpec : ChangeSpec := { name := "vaNext", fn := fun _ => fun
  | [d1, d2] => { results := [.lit (.bool true)], args := [d1, d2] }
  | _ => none }
def vaNextRow : OpenClaim := { program := "ytgnjmbmbdapkoaa", sum := "69fb975abec945c9c76080877ffa989d5477ec1b0196164e399185364b25a695", func := "silhouette/silhouettelaw05.VaNext", spec := "vaNext", apart := false }
def VaNextSaid : Prop := vaNextRow.holds Try.pinned (OpenSpec.ofChange vaNextSpec)

/-- ITS FALSE NEIGHBOUR: 'it returns false'. Refute it at one input. -/
def vaNextWrong : ChangeSpec := { name := "vaNext", fn := fun _ => fun
  | [d1, d2] => { results := [.lit (.bool false)], args := [d1, d2] }
  | _ => none }
def VaNextWrongFalsely : Prop := vaNextRow.holds Try.pinned (OpenSpec.ofChange vaNextWrong)

/-- 'silhouettelaw05.VaTables': WHATEVER THE INPUT: true; the input reads as it did. -/
def vaTablesSpec : ChangeSpec := { name := "vaTables", fn := fun _ => fun
  | [d1, d2] => { results := [.lit (.bool true)], args := [d1, d2] }
  | _ => none }
def vaTablesRow : OpenClaim := { program := "ytgnjmbmbdapkoaa", sum := "69fb975abec945c9c76080877ffa989d5477ec1b0196164e399185364b25a695", func := "silhouette/silhouettelaw05.VaTables", spec := "vaTables", apart := false }
def VaTablesSaid : Prop := vaTablesRow.holds Try.pinned (OpenSpec.ofChange vaTablesSpec)

/-- ITS FALSE NEIGHBOUR: 'it returns false'. Refute it at one input. -/
def vaTablesWrong : ChangeSpec := { name := "vaTables", fn := fun _ => fun
  | [d1, d2] => { results := [.lit (.bool false)], args := [d1, d2] }
  | _ => none }
def VaTablesWrongFalsely : Prop := vaTablesRow.holds Try.pinned (OpenSpec.ofChange vaTablesWrong)

/- THE SECOND FORM. 'bulk': how many values and letters a reading holds, each counted each time it is reached (what is shared counts as often as it is met; a slice's spare places count too). A statement '..UptoSaid' is the law's where the arguments, and the package variables that the reading takes, are together of bulk at most 1048576: NARROWER than '..Said'. Prove '..Said' where nothing that the law and all that it calls make is longer than what came in: it says more and counts as full. Else prove '..UptoSaid'. A law counts once. -/
mutual
def uptoBulk {H : Type} : DataW H → Nat
  | .lit (.string bytes) => bytes.length + 1
  | .lit _ => 1
  | .nil => 1
  | .ptr d => uptoBulk d + 1
  | .slice elems spare => uptoBulkAll elems + uptoBulkAll spare + 1
  | .agg parts => uptoBulkAll parts + 1
  | .iface _ d => uptoBulk d + 1
  | .map entries => uptoBulkEntries entries + 1
  | .held _ => 1
def uptoBulkAll {H : Type} : List (DataW H) → Nat
  | [] => 0
  | d :: r => uptoBulk d + uptoBulkAll r
def uptoBulkEntries {H : Type} : List (Lit × DataW H) → Nat
  | [] => 0
  | x :: r => uptoBulkEntry x + uptoBulkEntries r
def uptoBulkEntry {H : Type} : Lit × DataW H → Nat
  | (.string bytes, d) => bytes.length + uptoBulk d + 1
  | (_, d) => uptoBulk d + 1
 end
def uptoSmall : (H : Type) → List (DataW H) → Bool := fun _ ds => decide (uptoBulkAll ds ≤ 1048576)
def OpenSpec.upto (s : _root_.Go.ChangeSpec) : _root_.Go.OpenSpec := { _root_.Go.OpenSpec.ofChange s with cond := some uptoSmall }

/-- 'silhouettelaw05.VaTells', WHERE WHAT IT READS IS OF BULK AT MOST 1048576: true; the input reads as it did. -/
def vaTellsUptoRow : OpenClaim := { program := "ytgnjmbmbdapkoaa", sum := "69fb975abec945c9c76080877ffa989d5477ec1b0196164e399185364b25a695", func := "silhouette/silhouettelaw05.VaTells", spec := "vaTells", apart := false, narrowed := true }
def VaTellsUptoSaid : Prop := vaTellsUptoRow.holds Try.pinned (OpenSpec.upto vaTellsSpec)

/-- 'silhouettelaw05.VaBack', WHERE WHAT IT READS IS OF BULK AT MOST 1048576: true; the input reads as it did. -/
def vaBackUptoRow : OpenClaim := { program := "ytgnjmbmbdapkoaa", sum := "69fb975abec945c9c76080877ffa989d5477ec1b0196164e399185364b25a695", func := "silhouette/silhouettelaw05.VaBack", spec := "vaBack", apart := false, narrowed := true }
def VaBackUptoSaid : Prop := vaBackUptoRow.holds Try.pinned (OpenSpec.upto vaBackSpec)

/-- 'silhouettelaw05.VaPlaces', WHERE WHAT IT READS IS OF BULK AT MOST 1048576: true; the input reads as it did. -/
def vaPlacesUptoRow : OpenClaim := { program := "ytgnjmbmbdapkoaa", sum := "69fb975abec945c9c76080877ffa989d5477ec1b0196164e399185364b25a695", func := "silhouette/silhouettelaw05.VaPlaces", spec := "vaPlaces", apart := false, narrowed := true }
def VaPlacesUptoSaid : Prop := vaPlacesUptoRow.holds Try.pinned (OpenSpec.upto vaPlacesSpec)

/-- 'silhouettelaw05.VaSign', WHERE WHAT IT READS IS OF BULK AT MOST 1048576: true; the input reads as it did. -/
def vaSignUptoRow : OpenClaim := { program := "ytgnjmbmbdapkoaa", sum := "69fb975abec945c9c76080877ffa989d5477ec1b0196164e399185364b25a695", func := "silhouette/silhouettelaw05.VaSign", spec := "vaSign", apart := false, narrowed := true }
def VaSignUptoSaid : Prop := vaSignUptoRow.holds Try.pinned (OpenSpec.upto vaSignSpec)

/-- 'silhouettelaw05.VaNext', WHERE WHAT IT READS IS OF BULK AT MOST 1048576: true; the input reads as it did. -/
def vaNextUptoRow : OpenClaim := { program := "ytgnjmbmbdapkoaa", sum := "69fb975abec945c9c76080877ffa989d5477ec1b0196164e399185364b25a695", func := "silhouette/silhouettelaw05.VaNext", spec := "vaNext", apart := false, narrowed := true }
def VaNextUptoSaid : Prop := vaNextUptoRow.holds Try.pinned (OpenSpec.upto vaNextSpec)

/-- 'silhouettelaw05.VaTables', WHERE WHAT IT READS IS OF BULK AT MOST 1048576: true; the input reads as it did. -/
def vaTablesUptoRow : OpenClaim := { program := "ytgnjmbmbdapkoaa", sum := "69fb975abec945c9c76080877ffa989d5477ec1b0196164e399185364b25a695", func := "silhouette/silhouettelaw05.VaTables", spec := "vaTables", apart := false, narrowed := true }
def VaTablesUptoSaid : Prop := vaTablesUptoRow.holds Try.pinned (OpenSpec.upto vaTablesSpec)

end Rows
end Go.Proofs.Ytgnjmbmbdapkoaa
