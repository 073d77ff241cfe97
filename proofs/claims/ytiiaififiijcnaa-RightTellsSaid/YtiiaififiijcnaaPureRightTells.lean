/- RightTells over lists and numbers alone: what any entry permits, what all of any permit, whether one is under another one, whether any access is permitted, and any fault's code, are the document's; for every input, no condition. -/
import Derived.Test.YtiiaififiijcnaaFactsT
import Derived.Test.YtiiaififiijcnaaWayRightTells
namespace Go.Proofs.Ytiiaififiijcnaa.TellsPure
open Go.RowKit Go.Proofs.Ytiiaififiijcnaa.PRightTells Go.Proofs.YtiiaififiijcnaaW.PrintWords Go.Proofs.YtiiaififiijcnaaW.PrintLast Go.Proofs.YtiiaififiijcnaaW.PrintMore
open Go.Proofs.Ytiiaififiijcnaa.FactsT
theorem tells_true (p0 p1 p2 p3 p4 p5 p6 p7 : Bool) (p8 : Int) (l : List S26) (a0 a1 a2 b0 b1 b2 : Bool) (k : Int) (u t b : Bool) :
    ∃ j, silhouettelaw06_RightTells.f j p0 p1 p2 p3 p4 p5 p6 p7 p8 l a0 a1 a2 b0 b1 b2 k u t b = some true := by
  refine ⟨l.length + 10, ?_⟩
  unfold silhouettelaw06_RightTells.f
  rw [head_ge _ (by omega), Option.bind_some]
  by_cases h : (l.length : Int) > 900
  · rw [if_pos h]
  · rw [if_neg h, if_pos rfl]
    unfold right_Of.f silhouetteref06_Of.f right_All.f silhouetteref06_All.f
    rw [Option.bind_some, Option.bind_some, if_pos (by simp), Option.bind_some, Option.bind_some, if_pos (by decide)]
    rw [meet_f l (by omega) _ (by omega), Option.bind_some, rmeet_f l (by omega) _ (by omega), Option.bind_some, if_pos (by simp)]
    rw [under_ge _ (by omega), Option.bind_some, runder_f, Option.bind_some, if_pos (by simp), may_ge _ (by omega), Option.bind_some, rmay_ge _ (by omega), Option.bind_some, if_pos (by simp)]
    rw [code_f, Option.bind_some, rcode_ge _ (by omega), Option.bind_some]
    simp
theorem walk (p0 p1 p2 p3 p4 p5 p6 p7 : Bool) (p8 : Int) (A : Option Addr) (c : Nat) (l : List S26) (a0 a1 a2 b0 b1 b2 : Bool) (k : Int) (u t b : Bool) (w : World) (hr : Kd.C k26 w A l.length l) (hc : l.length ≤ c) :
    Calls Try.prog 3 #[.agg #[.bool p0, .bool p1, .bool p2, .bool p3, .bool p4, .bool p5, .bool p6, .bool p7, .int .i64 p8], .slice A l.length c, .agg #[.bool a0, .bool a1, .bool a2], .agg #[.bool b0, .bool b1, .bool b2], .int .i64 k, .bool u, .bool t, .bool b] w fun e w' => e = .returned (.bool true) ∧ Below w.heap.size w w' := by
  obtain ⟨j, h⟩ := tells_true p0 p1 p2 p3 p4 p5 p6 p7 p8 l a0 a1 a2 b0 b1 b2 k u t b
  exact silhouettelaw06_RightTells.calls j p0 p1 p2 p3 p4 p5 p6 p7 p8 A c l a0 a1 a2 b0 b1 b2 k u t b true rfl w hr hc h
end Go.Proofs.Ytiiaififiijcnaa.TellsPure
