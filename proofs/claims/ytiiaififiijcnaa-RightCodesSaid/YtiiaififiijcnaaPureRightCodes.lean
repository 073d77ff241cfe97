/- RightCodes over numbers alone: a code tells what was asked, and what was wrong, each by its own bit; for every input, no condition. -/
import Derived.Test.YtiiaififiijcnaaPRightCodesx4
namespace Go.Proofs.Ytiiaififiijcnaa.Pure
open Go.RowKit Go.Proofs.Ytiiaififiijcnaa.PRightCodes Go.Proofs.YtiiaififiijcnaaW.PrintWords Go.Proofs.YtiiaififiijcnaaW.PrintLast

theorem codes_rest (z : Int) (a1 a2 a3 : Bool) (hz : wrap64 z = 0 ∨ wrap64 z = 1 ∨ wrap64 z = 2) :
    ((right_Code.f (wrap64 z) a1 a2 a3).bind fun t154 => (if true = true then (if t154 ≥ 0 then (if t154 < 32 then (if (((Go.bits .and .i64 t154 1) == 1) == a2) = true then (if (((Go.bits .and .i64 t154 2) == 2) == ((wrap64 z) == 1)) = true then (if (((Go.bits .and .i64 t154 4) == 4) == a1) = true then (if a2 = true then (if (((Go.bits .and .i64 t154 8) == 8) == a3) = true then (some (((Go.bits .and .i64 t154 16) == 16) == ((wrap64 z) == 2))) else (some false)) else (if (((Go.bits .and .i64 t154 8) == 8) == false) = true then (some (((Go.bits .and .i64 t154 16) == 16) == ((wrap64 z) == 2))) else (some false))) else (some false)) else (some false)) else (some false)) else (some false)) else (some false)) else (some false))) = some true := by
  rcases hz with h | h | h <;> rw [h] <;> cases a1 <;> cases a2 <;> cases a3 <;> decide +kernel

set_option maxRecDepth 100000 in
theorem codes_head : silhouettelaw06_head.f 3 = some true := by decide +kernel

theorem RightCodes : silhouettelaw06_RightCodes.Pure := by
  intro a0 a1 a2 a3 w0
  have b0 : 0 ≤ a0 ∧ a0 < 256 := by
    simp [Lit.wf, IntKind.min, IntKind.max, IntKind.bits, IntKind.signed] at w0; omega
  refine ⟨3, ?_⟩
  unfold silhouettelaw06_RightCodes.f
  rw [codes_head, Option.bind_some]
  refine codes_rest (Int.tmod a0 3) a1 a2 a3 ?_
  rw [Int.tmod_eq_emod_of_nonneg b0.1]
  unfold wrap64
  omega

end Go.Proofs.Ytiiaififiijcnaa.Pure
