/- Layer 12: the document's Right, walked, where all is in bounds: case 3. -/
import Derived.Test.YtmifcdmkobammaaRefRight
import Derived.Outline
import Derived.RegionTactic
namespace Go.Proofs.Ytmifcdmkobammaa.ScriptWalk
open Go.RowKit Go.Proofs.Ytmifcdmkobammaa.Parts Go.Proofs.Ytmifcdmkobammaa.Blks Go.Proofs.YtmifcdmkobammaaW.PrintWords Go.Proofs.Ytmifcdmkobammaa.Q
set_option maxHeartbeats 8000000 in
set_option maxRecDepth 100000 in
theorem refRight_3 (k : Int) (v g i n : Int) (w : World) (hk0 : 0 ≤ k) (hk8 : k ≤ 8) (hg0 : 0 ≤ g) (hg : g ≤ 255) (hn0 : 0 ≤ n) (hn : n ≤ 255) (hi0 : 0 ≤ i) (hi : i ≤ 7) :
    Calls Try.prog 14 #[.agg #[.int .i64 k, .bool true, .int .u64 0, .int .u64 v, .int .i64 g, .int .i64 i, .int .i64 n]] w fun e w' => e = .returned (.bool (refRightB k true 0 v g i n)) ∧ Below w.heap.size w w' := by
  have hB : ∀ o, Below w.heap.size w (w.alloc o) := fun o => (Below.refl _ _).alloc (Nat.le_refl _) o
  go_enter Try.func14, Try.ntmps14
  go_wp2_with fail
  repeat' (first
    | (refine (has_any _ _ (by decide) _).mono ?_; rintro e w' ⟨rfl, ⟨nq, rfl⟩⟩; go_wp2_with fail)
    | (go_ret; exact ⟨by simp [refRightB, *], by first | exact (hB _) | exact Blks.below_drewN (hB _) _ | exact Blks.below_drewN (Blks.below_drewN (hB _) _) _ | exact Blks.below_drewN (Blks.below_drewN (Blks.below_drewN (hB _) _) _) _ | exact Blks.below_drewN (Blks.below_drewN (Blks.below_drewN (Blks.below_drewN (hB _) _) _) _) _ | exact Blks.below_drewN (Blks.below_drewN (Blks.below_drewN (Blks.below_drewN (Blks.below_drewN (hB _) _) _) _) _) _ | exact Blks.below_drewN (Blks.below_drewN (Blks.below_drewN (Blks.below_drewN (Blks.below_drewN (Blks.below_drewN (hB _) _) _) _) _) _) _ | exact Blks.below_drewN (Blks.below_drewN (Blks.below_drewN (Blks.below_drewN (Blks.below_drewN (Blks.below_drewN (Blks.below_drewN (hB _) _) _) _) _) _) _) _ | exact Blks.below_drewN (Blks.below_drewN (Blks.below_drewN (Blks.below_drewN (Blks.below_drewN (Blks.below_drewN (Blks.below_drewN (Blks.below_drewN (hB _) _) _) _) _) _) _) _) _ | exact Blks.below_drewN (Blks.below_drewN (Blks.below_drewN (Blks.below_drewN (Blks.below_drewN (Blks.below_drewN (Blks.below_drewN (Blks.below_drewN (Blks.below_drewN (hB _) _) _) _) _) _) _) _) _) _ | exact Blks.below_drewN (Blks.below_drewN (Blks.below_drewN (Blks.below_drewN (Blks.below_drewN (Blks.below_drewN (Blks.below_drewN (Blks.below_drewN (Blks.below_drewN (Blks.below_drewN (hB _) _) _) _) _) _) _) _) _) _) _⟩))
end Go.Proofs.Ytmifcdmkobammaa.ScriptWalk
