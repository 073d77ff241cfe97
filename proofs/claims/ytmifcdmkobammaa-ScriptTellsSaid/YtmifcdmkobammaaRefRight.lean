/- Layer 12: the document's Right, walked; for every operation. -/
import Derived.Test.YtmifcdmkobammaaY3
import Derived.Test.YtmifcdmkobammaaParts2
import Derived.Outline
import Derived.RegionTactic
namespace Go.Proofs.Ytmifcdmkobammaa.ScriptWalk
open Go.RowKit Go.Proofs.Ytmifcdmkobammaa.Parts Go.Proofs.Ytmifcdmkobammaa.Blks Go.Proofs.YtmifcdmkobammaaW.PrintWords Go.Proofs.Ytmifcdmkobammaa.Q
/-- Has a kind a part? -/
def hasC (k c : Int) : Bool := (letters k).contains c.toNat.toUInt8
theorem has_law (k c : Int) (hc : c = 117 ∨ c = 65 ∨ c = 86 ∨ c = 71 ∨ c = 73 ∨ c = 78) : silhouetteref12_has.f 12 k c = some (hasC k c) := by
  rcases kinds k with rfl | rfl | rfl | rfl | rfl | rfl | rfl | rfl | rfl | h
  iterate 9 · rcases hc with rfl | rfl | rfl | rfl | rfl | rfl <;> decide +kernel
  · have e : hasC k c = false := by unfold hasC; rw [letters_no h]; rfl
    have h0 : ¬ k = 0 := by omega
    have h1 : ¬ k = 1 := by omega
    have h2 : (k == 2) = false := beq_eq_false_iff_ne.2 (by omega)
    have h3 : ¬ k = 3 := by omega
    have h4 : ¬ k = 4 := by omega
    have h5 : ¬ k = 5 := by omega
    have h6 : ¬ k = 6 := by omega
    have h7 : (k == 7) = false := beq_eq_false_iff_ne.2 (by omega)
    have h8 : ¬ k = 8 := by omega
    rw [e]
    simp [silhouetteref12_has.f, silhouetteref12_has.j0, silhouetteref12_has.j1, silhouetteref12_has.j2, silhouetteref12_has.l0, h0, h1, h2, h3, h4, h5, h6, h7, h8, ByteArray.size]
theorem has_any (k c : Int) (hc : c = 117 ∨ c = 65 ∨ c = 86 ∨ c = 71 ∨ c = 73 ∨ c = 78) (w : World) : Calls Try.prog 20 #[.int .i64 k, .int .u8 c] w fun e w' => e = .returned (.bool (hasC k c)) ∧ Drawn0 w w' :=
  silhouetteref12_has.calls 12 k c _ w (has_law k c hc)
/-- The document's Right. -/
def refRightB (k : Int) (u : Bool) (a v g i n : Int) : Bool := (decide (0 ≤ k) && (decide (k ≤ 8) && (decide (0 ≤ g) && (decide (g ≤ 255) && (decide (0 ≤ n) && (decide (n ≤ 255) && (decide (0 ≤ i) && decide (i ≤ 7)))))))) && ((!u || hasC k 117) && ((a == 0 || hasC k 65) && ((v == 0 || hasC k 86) && ((g == 0 || hasC k 71) && ((i == 0 || hasC k 73) && (n == 0 || hasC k 78))))))
end Go.Proofs.Ytmifcdmkobammaa.ScriptWalk
