/- RightParts over lists alone: a meet of two has what both have; in parts, or at once, it is the same; for every input, no condition. -/
import Derived.Test.YtiiaififiijcnaaFactsP
import Derived.Test.YtiiaififiijcnaaWayRightPartsB
import Derived.Test.YtiiaififiijcnaaWayRightPartsC
namespace Go.Proofs.Ytiiaififiijcnaa.PartsPure
open Go.RowKit Go.Proofs.Ytiiaififiijcnaa.PRightMeet Go.Proofs.YtiiaififiijcnaaW.PrintWords Go.Proofs.YtiiaififiijcnaaW.PrintLast Go.Proofs.YtiiaififiijcnaaW.PrintMore
open Go.Proofs.Ytiiaififiijcnaa.FactsP
theorem head_ge (k : Nat) (hk : 3 ≤ k) : silhouettelaw06_head.f k = some true := at_rounds silhouettelaw06_head.mono hk silhouettelaw06_head.answer
theorem m0_append (a b : List S26) : m0 (a ++ b) = (m0 a && m0 b) := List.all_append
theorem m1_append (a b : List S26) : m1 (a ++ b) = (m1 a && m1 b) := List.all_append
theorem m2_append (a b : List S26) : m2 (a ++ b) = (m2 a && m2 b) := List.all_append
theorem n0 (x0 x1 x2 y0 y1 y2 : Bool) : m0 [⟨x0, x1, x2⟩, ⟨y0, y1, y2⟩] = (x0 && y0) := by simp [m0]
theorem n1 (x0 x1 x2 y0 y1 y2 : Bool) : m1 [⟨x0, x1, x2⟩, ⟨y0, y1, y2⟩] = (x1 && y1) := by simp [m1]
theorem n2 (x0 x1 x2 y0 y1 y2 : Bool) : m2 [⟨x0, x1, x2⟩, ⟨y0, y1, y2⟩] = (x2 && y2) := by simp [m2]
theorem o0 (x0 x1 x2 : Bool) : m0 [⟨x0, x1, x2⟩] = x0 := by simp [m0]
theorem o1 (x0 x1 x2 : Bool) : m1 [⟨x0, x1, x2⟩] = x1 := by simp [m1]
theorem o2 (x0 x1 x2 : Bool) : m2 [⟨x0, x1, x2⟩] = x2 := by simp [m2]
theorem parts_j (l0 l1 : List S26) (h0 : l0.length ≤ 400) (h1 : l1.length ≤ 400) (c0 c1 c2 d0 d1 d2 : Bool) (k : Nat) (hk : 810 ≤ k) :
    silhouettelaw06_RightParts.j0 (k + 1) l0 l1 true false c0 c1 c2 d0 d1 d2 = some true := by
  simp only [silhouettelaw06_RightParts.j0]
  rw [if_neg (by decide), Option.bind_some, if_pos (by simp; omega), Option.bind_some, if_pos (by simp; omega), meet_f _ (by simp) k (by simp; omega), Option.bind_some, if_pos trivial]
  rw [List.nil_append, meet_f _ (by simp; omega) k (by simp; omega), Option.bind_some, meet_f l0 (by omega) k (by omega), Option.bind_some, meet_f l1 (by omega) k (by omega), Option.bind_some, meet_f _ (by simp) k (by simp; omega), Option.bind_some]
  simp only [m0_append, m1_append, m2_append, n0, n1, n2]
  rw [if_pos (by simp)]
  have hm := meet_f [⟨c0, c1, c2⟩] (by simp) k (by simp; omega)
  rw [o0, o1, o2] at hm
  cases c0 <;> cases c1 <;> cases c2 <;> simp [hm]
theorem parts_true (l0 l1 : List S26) (c0 c1 c2 d0 d1 d2 : Bool) : ∃ k, silhouettelaw06_RightParts.f k l0 l1 c0 c1 c2 d0 d1 d2 = some true := by
  refine ⟨812, ?_⟩
  unfold silhouettelaw06_RightParts.f
  rw [head_ge _ (by omega), Option.bind_some]
  by_cases h : (l0.length : Int) > 400
  · rw [if_pos h]; simp only [silhouettelaw06_RightParts.j0]; rw [if_pos trivial]
  · rw [if_neg h]
    by_cases h' : (l1.length : Int) > 400
    · have e : decide ((l1.length : Int) > 400) = true := decide_eq_true h'
      rw [e]; simp only [silhouettelaw06_RightParts.j0]; rw [if_pos trivial]
    · have e : decide ((l1.length : Int) > 400) = false := decide_eq_false h'
      rw [e]
      exact parts_j l0 l1 (by omega) (by omega) c0 c1 c2 d0 d1 d2 811 (by omega)

theorem walk (A : Option Addr) (ca : Nat) (l0 : List S26) (B : Option Addr) (cb : Nat) (l1 : List S26) (c0 c1 c2 d0 d1 d2 : Bool) (w : World) (hr0 : Kd.C k26 w A l0.length l0) (hc0 : l0.length ≤ ca) (hr1 : Kd.C k26 w B l1.length l1) (hc1 : l1.length ≤ cb) :
    Calls Try.prog 8 #[.slice A l0.length ca, .slice B l1.length cb, .agg #[.bool c0, .bool c1, .bool c2], .agg #[.bool d0, .bool d1, .bool d2]] w fun e w' => e = .returned (.bool true) ∧ Below w.heap.size w w' := by
  obtain ⟨k, h⟩ := parts_true l0 l1 c0 c1 c2 d0 d1 d2
  by_cases hA : (c0 && (c1 || c2)) = true
  · exact silhouettelaw06_RightParts.callsA k A ca l0 B cb l1 c0 c1 c2 d0 d1 d2 true rfl hA w hr0 hc0 hr1 hc1 h
  · by_cases hC : (!c0 && !c1) = true
    · exact silhouettelaw06_RightParts.callsC k A ca l0 B cb l1 c0 c1 c2 d0 d1 d2 true rfl hC w hr0 hc0 hr1 hc1 h
    · refine silhouettelaw06_RightParts.callsB k A ca l0 B cb l1 c0 c1 c2 d0 d1 d2 true rfl ?_ w hr0 hc0 hr1 hc1 h
      revert hA hC
      cases c0 <;> cases c1 <;> cases c2 <;> decide
end Go.Proofs.Ytiiaififiijcnaa.PartsPure
