/- Layer 12: the live question answers true. -/
import Derived.Test.YtmifcdmkobammaaYh1
namespace Go.Proofs.Ytmifcdmkobammaa.Q
open Go.RowKit
def silhouettelaw12_head.f : Option Bool := some true
set_option maxRecDepth 100000 in
theorem headR_true : silhouettelaw12_headR.f 60 = some true := by decide +kernel
theorem silhouettelaw12_head.calls (r : Bool) (w : World) (h : silhouettelaw12_head.f = some r) :
    Calls Try.prog 10 #[] w fun e w' => e = .returned (.bool r) ∧ Below w.heap.size w w' := by
  obtain rfl := Option.some.inj h
  exact silhouettelaw12_headR.calls 60 true rfl w headR_true
end Go.Proofs.Ytmifcdmkobammaa.Q
