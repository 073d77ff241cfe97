/- RightOrder over bools alone: each one is under itself; of two that are under one another both are the same; what is under what is under one is under it; for every input, no condition. -/
import Derived.Test.YtiiaififiijcnaaFacts
import Derived.Test.YtiiaififiijcnaaWayRightOrder
namespace Go.Proofs.Ytiiaififiijcnaa.OrderPure
open Go.RowKit Go.Proofs.Ytiiaififiijcnaa.PRightMeet Go.Proofs.YtiiaififiijcnaaW.PrintWords Go.Proofs.YtiiaififiijcnaaW.PrintLast Go.Proofs.YtiiaififiijcnaaW.PrintMore
open Go.Proofs.Ytiiaififiijcnaa.Facts
/-- What the order of rights is. -/
theorem laws : ∀ a0 a1 a2 b0 b1 b2 c0 c1 c2 : Bool, underB a0 a1 a2 a0 a1 a2 = true ∧ ((a0 == b0 && (a1 == b1 && (a2 == b2))) = (underB a0 a1 a2 b0 b1 b2 && underB b0 b1 b2 a0 a1 a2)) ∧
    (underB a0 a1 a2 b0 b1 b2 = true → underB b0 b1 b2 c0 c1 c2 = true → underB a0 a1 a2 c0 c1 c2 = true) := by decide +kernel
theorem order_true (a0 a1 a2 b0 b1 b2 c0 c1 c2 : Bool) : silhouettelaw06_RightOrder.f 3 a0 a1 a2 b0 b1 b2 c0 c1 c2 = some true := by
  obtain ⟨h1, h2, h3⟩ := laws a0 a1 a2 b0 b1 b2 c0 c1 c2
  unfold silhouettelaw06_RightOrder.f
  rw [head_f, Option.bind_some, if_pos rfl]
  simp only [under_f]
  rw [Option.bind_some, h1, if_pos rfl, Option.bind_some, h2]
  cases hab : underB a0 a1 a2 b0 b1 b2
  · simp
  · cases hba : underB b0 b1 b2 a0 a1 a2
    · cases hbc : underB b0 b1 b2 c0 c1 c2
      · simp
      · simp [h3 hab hbc]
    · cases hbc : underB b0 b1 b2 c0 c1 c2
      · simp
      · simp [h3 hab hbc]
theorem walk (a0 a1 a2 b0 b1 b2 c0 c1 c2 : Bool) (w : World) :
    Calls Try.prog 6 #[.agg #[.bool a0, .bool a1, .bool a2], .agg #[.bool b0, .bool b1, .bool b2], .agg #[.bool c0, .bool c1, .bool c2]] w fun e w' => e = .returned (.bool true) ∧ Below w.heap.size w w' :=
  silhouettelaw06_RightOrder.calls 3 a0 a1 a2 b0 b1 b2 c0 c1 c2 true rfl w (order_true ..)
end Go.Proofs.Ytiiaififiijcnaa.OrderPure
