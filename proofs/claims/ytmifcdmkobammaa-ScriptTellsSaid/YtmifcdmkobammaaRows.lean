/-
  No cell of these rows narrows 'for every input' (looked for: loops, veiled, ifaces, maps, wideKeys, modest, calm, conditions, laid).
  DERIVED. THE GIVEN ROWS OF THIS SEAT. 7 by the template 'for every input the law returns true; each argument reads behind the call as it read before'; 0 by the template 'total and deterministic' (their statements: YtmifcdmkobammaaTotals.lean).
  GIVEN WITH THE SEED: the statements are not yours to turn. If you find one false, say at which input.
  Laid BY PROGRAM, IN A SANDBOX (cutbox-rows.mjs): the forced cells as the released guide's own fill.sh prints them over the translation 6905fc2af8441c56… (all of the seat's roots in one cut). By AI agents, Wed Nov 11 2026. No macro, syntax, notation, axiom, sorry.
-/
import Derived.Test.YtmifcdmkobammaaChecked
import GoSem.Claim
import GoSem.ClaimJoined
import GoSem.ClaimMapViews
import Derived.JoinedTies
import Derived.KernelRfl
namespace Go.Proofs.Ytmifcdmkobammaa
/- THE CELL 'sum', in the pinned program and in every row, IS THE sha256 OF THE DUMP (.gsa) THAT YtmifcdmkobammaaProg.lean LOADS. Nothing in Lean hashes anything: it is a label: what it is worth is what the hold of that sum in a sandbox is worth. -/
noncomputable def Try.pinned : Pinned := { name := "ytmifcdmkobammaa", sum := "6905fc2af8441c5616466e6779c4b918d4b3f1661f5b986ec88a53ee320b4b5e", checked := Try.checked }
namespace Rows
def none {H : Type} : Left H := { results := [], args := [] }

/-- 'silhouettelaw12.ScriptTells': WHATEVER THE INPUT: true; the input reads as it did. -/
def scriptTellsSpec : ChangeSpec := { name := "scriptTells", fn := fun _ => fun
  | [d1, d2] => { results := [.lit (.bool true)], args := [d1, d2] }
  | _ => none }
def scriptTellsRow : OpenClaim := { program := "ytmifcdmkobammaa", sum := "6905fc2af8441c5616466e6779c4b918d4b3f1661f5b986ec88a53ee320b4b5e", func := "silhouette/silhouettelaw12.ScriptTells", spec := "scriptTells", inPlace := ["internal/bytealg.IndexByteString", "internal/bytealg.IndexString"], named := ["internal/bytealg.MaxLen"], apart := false }
def ScriptTellsSaid : Prop := scriptTellsRow.holds Try.pinned (OpenSpec.ofChange scriptTellsSpec)

/-- ITS FALSE NEIGHBOUR: 'it returns false'. Refute it at one input. -/
def scriptTellsWrong : ChangeSpec := { name := "scriptTells", fn := fun _ => fun
  | [d1, d2] => { results := [.lit (.bool false)], args := [d1, d2] }
  | _ => none }
def ScriptTellsWrongFalsely : Prop := scriptTellsRow.holds Try.pinned (OpenSpec.ofChange scriptTellsWrong)

/-- 'silhouettelaw12.ScriptBack': WHATEVER THE INPUT: true; the input reads as it did. -/
def scriptBackSpec : ChangeSpec := { name := "scriptBack", fn := fun _ => fun
  | [d1, d2] => { results := [.lit (.bool true)], args := [d1, d2] }
  | _ => none }
def scriptBackRow : OpenClaim := { program := "ytmifcdmkobammaa", sum := "6905fc2af8441c5616466e6779c4b918d4b3f1661f5b986ec88a53ee320b4b5e", func := "silhouette/silhouettelaw12.ScriptBack", spec := "scriptBack", inPlace := ["internal/bytealg.IndexByteString", "internal/bytealg.IndexString"], named := ["internal/bytealg.MaxLen"], apart := false }
def ScriptBackSaid : Prop := scriptBackRow.holds Try.pinned (OpenSpec.ofChange scriptBackSpec)

/-- ITS FALSE NEIGHBOUR: 'it returns false'. Refute it at one input. -/
def scriptBackWrong : ChangeSpec := { name := "scriptBack", fn := fun _ => fun
  | [d1, d2] => { results := [.lit (.bool false)], args := [d1, d2] }
  | _ => none }
def ScriptBackWrongFalsely : Prop := scriptBackRow.holds Try.pinned (OpenSpec.ofChange scriptBackWrong)

/-- 'silhouettelaw12.ScriptCut': WHATEVER THE INPUT: true; the input reads as it did. -/
def scriptCutSpec : ChangeSpec := { name := "scriptCut", fn := fun _ => fun
  | [d1, d2] => { results := [.lit (.bool true)], args := [d1, d2] }
  | _ => none }
def scriptCutRow : OpenClaim := { program := "ytmifcdmkobammaa", sum := "6905fc2af8441c5616466e6779c4b918d4b3f1661f5b986ec88a53ee320b4b5e", func := "silhouette/silhouettelaw12.ScriptCut", spec := "scriptCut", inPlace := ["internal/bytealg.IndexByteString", "internal/bytealg.IndexString"], named := ["internal/bytealg.MaxLen"], apart := false }
def ScriptCutSaid : Prop := scriptCutRow.holds Try.pinned (OpenSpec.ofChange scriptCutSpec)

/-- ITS FALSE NEIGHBOUR: 'it returns false'. Refute it at one input. -/
def scriptCutWrong : ChangeSpec := { name := "scriptCut", fn := fun _ => fun
  | [d1, d2] => { results := [.lit (.bool false)], args := [d1, d2] }
  | _ => none }
def ScriptCutWrongFalsely : Prop := scriptCutRow.holds Try.pinned (OpenSpec.ofChange scriptCutWrong)

/-- 'silhouettelaw12.ScriptRow': WHATEVER THE INPUT: true; the input reads as it did. -/
def scriptRowSpec : ChangeSpec := { name := "scriptRow", fn := fun _ => fun
  | [d1, d2] => { results := [.lit (.bool true)], args := [d1, d2] }
  | _ => none }
def scriptRowRow : OpenClaim := { program := "ytmifcdmkobammaa", sum := "6905fc2af8441c5616466e6779c4b918d4b3f1661f5b986ec88a53ee320b4b5e", func := "silhouette/silhouettelaw12.ScriptRow", spec := "scriptRow", inPlace := ["internal/bytealg.IndexByteString", "internal/bytealg.IndexString"], named := ["internal/bytealg.MaxLen"], apart := false }
def ScriptRowSaid : Prop := scriptRowRow.holds Try.pinned (OpenSpec.ofChange scriptRowSpec)

/-- ITS FALSE NEIGHBOUR: 'it returns false'. Refute it at one input. -/
def scriptRowWrong : ChangeSpec := { name := "scriptRow", fn := fun _ => fun
  | [d1, d2] => { results := [.lit (.bool false)], args := [d1, d2] }
  | _ => none }
def ScriptRowWrongFalsely : Prop := scriptRowRow.holds Try.pinned (OpenSpec.ofChange scriptRowWrong)

/-- 'silhouettelaw12.ScriptParts': WHATEVER THE INPUT: true; the input reads as it did. -/
def scriptPartsSpec : ChangeSpec := { name := "scriptParts", fn := fun _ => fun
  | [d1, d2] => { results := [.lit (.bool true)], args := [d1, d2] }
  | _ => none }
def scriptPartsRow : OpenClaim := { program := "ytmifcdmkobammaa", sum := "6905fc2af8441c5616466e6779c4b918d4b3f1661f5b986ec88a53ee320b4b5e", func := "silhouette/silhouettelaw12.ScriptParts", spec := "scriptParts", inPlace := ["internal/bytealg.IndexByteString", "internal/bytealg.IndexString"], named := ["internal/bytealg.MaxLen"], apart := false }
def ScriptPartsSaid : Prop := scriptPartsRow.holds Try.pinned (OpenSpec.ofChange scriptPartsSpec)

/-- ITS FALSE NEIGHBOUR: 'it returns false'. Refute it at one input. -/
def scriptPartsWrong : ChangeSpec := { name := "scriptParts", fn := fun _ => fun
  | [d1, d2] => { results := [.lit (.bool false)], args := [d1, d2] }
  | _ => none }
def ScriptPartsWrongFalsely : Prop := scriptPartsRow.holds Try.pinned (OpenSpec.ofChange scriptPartsWrong)

/-- 'silhouettelaw12.ScriptBytes': WHATEVER THE INPUT: true; the input reads as it did. -/
def scriptBytesSpec : ChangeSpec := { name := "scriptBytes", fn := fun _ => fun
  | [d1, d2] => { results := [.lit (.bool true)], args := [d1, d2] }
  | _ => none }
def scriptBytesRow : OpenClaim := { program := "ytmifcdmkobammaa", sum := "6905fc2af8441c5616466e6779c4b918d4b3f1661f5b986ec88a53ee320b4b5e", func := "silhouette/silhouettelaw12.ScriptBytes", spec := "scriptBytes", inPlace := ["internal/bytealg.IndexByteString", "internal/bytealg.IndexString"], named := ["internal/bytealg.MaxLen"], apart := false }
def ScriptBytesSaid : Prop := scriptBytesRow.holds Try.pinned (OpenSpec.ofChange scriptBytesSpec)

/-- ITS FALSE NEIGHBOUR: 'it returns false'. Refute it at one input. -/
def scriptBytesWrong : ChangeSpec := { name := "scriptBytes", fn := fun _ => fun
  | [d1, d2] => { results := [.lit (.bool false)], args := [d1, d2] }
  | _ => none }
def ScriptBytesWrongFalsely : Prop := scriptBytesRow.holds Try.pinned (OpenSpec.ofChange scriptBytesWrong)

/-- 'silhouettelaw12.ScriptFirst': WHATEVER THE INPUT: true; the input reads as it did. -/
def scriptFirstSpec : ChangeSpec := { name := "scriptFirst", fn := fun _ => fun
  | [d1, d2, d3, d4] => { results := [.lit (.bool true)], args := [d1, d2, d3, d4] }
  | _ => none }
def scriptFirstRow : OpenClaim := { program := "ytmifcdmkobammaa", sum := "6905fc2af8441c5616466e6779c4b918d4b3f1661f5b986ec88a53ee320b4b5e", func := "silhouette/silhouettelaw12.ScriptFirst", spec := "scriptFirst", inPlace := ["internal/bytealg.IndexByteString", "internal/bytealg.IndexString"], named := ["internal/bytealg.MaxLen"], apart := false }
def ScriptFirstSaid : Prop := scriptFirstRow.holds Try.pinned (OpenSpec.ofChange scriptFirstSpec)

/-- ITS FALSE NEIGHBOUR: 'it returns false'. Refute it at one input. -/
def scriptFirstWrong : ChangeSpec := { name := "scriptFirst", fn := fun _ => fun
  | [d1, d2, d3, d4] => { results := [.lit (.bool false)], args := [d1, d2, d3, d4] }
  | _ => none }
def ScriptFirstWrongFalsely : Prop := scriptFirstRow.holds Try.pinned (OpenSpec.ofChange scriptFirstWrong)

/- THE SECOND FORM. 'bulk': how many values and letters a reading holds, each counted each time it is reached (what is shared counts as often as it is met; a slice's spare places count too). A statement '..UptoSaid' is the law's where the arguments, and the package variables that the reading takes, are together of bulk at most 1048576: NARROWER than '..Said'. Prove '..Said' where nothing that the law and all that it calls make is longer than what came in: it says more and counts as full. Else prove '..UptoSaid'. A law counts once. -/
mutual
def uptoBulk {H : Type} : DataW H → Nat
  | .lit (.string bytes) => bytes.length + 1
  | .lit _ => 1
  | .nil => 1
  | .ptr d => uptoBulk d + 1
  | .slice elems spare => uptoBulkAll elems + uptoBulkAll spare + 1
  | .agg parts => uptoBulkAll parts + 1
  | .iface _ d => uptoBulk d + 1
  | .map entries => uptoBulkEntries entries + 1
  | .held _ => 1
def uptoBulkAll {H : Type} : List (DataW H) → Nat
  | [] => 0
  | d :: r => uptoBulk d + uptoBulkAll r
def uptoBulkEntries {H : Type} : List (Lit × DataW H) → Nat
  | [] => 0
  | x :: r => uptoBulkEntry x + uptoBulkEntries r
def uptoBulkEntry {H : Type} : Lit × DataW H → Nat
  | (.string bytes, d) => bytes.length + uptoBulk d + 1
  | (_, d) => uptoBulk d + 1
 end
def uptoSmall : (H : Type) → List (DataW H) → Bool := fun _ ds => decide (uptoBulkAll ds ≤ 1048576)
def OpenSpec.upto (s : _root_.Go.ChangeSpec) : _root_.Go.OpenSpec := { _root_.Go.OpenSpec.ofChange s with cond := some uptoSmall }

/-- 'silhouettelaw12.ScriptTells', WHERE WHAT IT READS IS OF BULK AT MOST 1048576: true; the input reads as it did. -/
def scriptTellsUptoRow : OpenClaim := { program := "ytmifcdmkobammaa", sum := "6905fc2af8441c5616466e6779c4b918d4b3f1661f5b986ec88a53ee320b4b5e", func := "silhouette/silhouettelaw12.ScriptTells", spec := "scriptTells", inPlace := ["internal/bytealg.IndexByteString", "internal/bytealg.IndexString"], named := ["internal/bytealg.MaxLen"], apart := false, narrowed := true }
def ScriptTellsUptoSaid : Prop := scriptTellsUptoRow.holds Try.pinned (OpenSpec.upto scriptTellsSpec)

/-- 'silhouettelaw12.ScriptBack', WHERE WHAT IT READS IS OF BULK AT MOST 1048576: true; the input reads as it did. -/
def scriptBackUptoRow : OpenClaim := { program := "ytmifcdmkobammaa", sum := "6905fc2af8441c5616466e6779c4b918d4b3f1661f5b986ec88a53ee320b4b5e", func := "silhouette/silhouettelaw12.ScriptBack", spec := "scriptBack", inPlace := ["internal/bytealg.IndexByteString", "internal/bytealg.IndexString"], named := ["internal/bytealg.MaxLen"], apart := false, narrowed := true }
def ScriptBackUptoSaid : Prop := scriptBackUptoRow.holds Try.pinned (OpenSpec.upto scriptBackSpec)

/-- 'silhouettelaw12.ScriptCut', WHERE WHAT IT READS IS OF BULK AT MOST 1048576: true; the input reads as it did. -/
def scriptCutUptoRow : OpenClaim := { program := "ytmifcdmkobammaa", sum := "6905fc2af8441c5616466e6779c4b918d4b3f1661f5b986ec88a53ee320b4b5e", func := "silhouette/silhouettelaw12.ScriptCut", spec := "scriptCut", inPlace := ["internal/bytealg.IndexByteString", "internal/bytealg.IndexString"], named := ["internal/bytealg.MaxLen"], apart := false, narrowed := true }
def ScriptCutUptoSaid : Prop := scriptCutUptoRow.holds Try.pinned (OpenSpec.upto scriptCutSpec)

/-- 'silhouettelaw12.ScriptRow', WHERE WHAT IT READS IS OF BULK AT MOST 1048576: true; the input reads as it did. -/
def scriptRowUptoRow : OpenClaim := { program := "ytmifcdmkobammaa", sum := "6905fc2af8441c5616466e6779c4b918d4b3f1661f5b986ec88a53ee320b4b5e", func := "silhouette/silhouettelaw12.ScriptRow", spec := "scriptRow", inPlace := ["internal/bytealg.IndexByteString", "internal/bytealg.IndexString"], named := ["internal/bytealg.MaxLen"], apart := false, narrowed := true }
def ScriptRowUptoSaid : Prop := scriptRowUptoRow.holds Try.pinned (OpenSpec.upto scriptRowSpec)

/-- 'silhouettelaw12.ScriptParts', WHERE WHAT IT READS IS OF BULK AT MOST 1048576: true; the input reads as it did. -/
def scriptPartsUptoRow : OpenClaim := { program := "ytmifcdmkobammaa", sum := "6905fc2af8441c5616466e6779c4b918d4b3f1661f5b986ec88a53ee320b4b5e", func := "silhouette/silhouettelaw12.ScriptParts", spec := "scriptParts", inPlace := ["internal/bytealg.IndexByteString", "internal/bytealg.IndexString"], named := ["internal/bytealg.MaxLen"], apart := false, narrowed := true }
def ScriptPartsUptoSaid : Prop := scriptPartsUptoRow.holds Try.pinned (OpenSpec.upto scriptPartsSpec)

/-- 'silhouettelaw12.ScriptBytes', WHERE WHAT IT READS IS OF BULK AT MOST 1048576: true; the input reads as it did. -/
def scriptBytesUptoRow : OpenClaim := { program := "ytmifcdmkobammaa", sum := "6905fc2af8441c5616466e6779c4b918d4b3f1661f5b986ec88a53ee320b4b5e", func := "silhouette/silhouettelaw12.ScriptBytes", spec := "scriptBytes", inPlace := ["internal/bytealg.IndexByteString", "internal/bytealg.IndexString"], named := ["internal/bytealg.MaxLen"], apart := false, narrowed := true }
def ScriptBytesUptoSaid : Prop := scriptBytesUptoRow.holds Try.pinned (OpenSpec.upto scriptBytesSpec)

/-- 'silhouettelaw12.ScriptFirst', WHERE WHAT IT READS IS OF BULK AT MOST 1048576: true; the input reads as it did. -/
def scriptFirstUptoRow : OpenClaim := { program := "ytmifcdmkobammaa", sum := "6905fc2af8441c5616466e6779c4b918d4b3f1661f5b986ec88a53ee320b4b5e", func := "silhouette/silhouettelaw12.ScriptFirst", spec := "scriptFirst", inPlace := ["internal/bytealg.IndexByteString", "internal/bytealg.IndexString"], named := ["internal/bytealg.MaxLen"], apart := false, narrowed := true }
def ScriptFirstUptoSaid : Prop := scriptFirstUptoRow.holds Try.pinned (OpenSpec.upto scriptFirstSpec)

end Rows
end Go.Proofs.Ytmifcdmkobammaa
