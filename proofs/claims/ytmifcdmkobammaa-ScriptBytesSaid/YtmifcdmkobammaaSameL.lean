/- Layer 12: Same tells equal lists, in plain Lean. -/
import Derived.Test.YtmifcdmkobammaaPutL
namespace Go.Proofs.Ytmifcdmkobammaa.Q
open Go.RowKit Go.Proofs.YtmifcdmkobammaaW.PrintWords Go.Proofs.YtmifcdmkobammaaW.PrintLast Go.Proofs.YtmifcdmkobammaaW.PrintMore
theorem S31.ext' {x y : S31} (h0 : x.f0 = y.f0) (h1 : x.f1 = y.f1) (h2 : x.f2 = y.f2) (h3 : x.f3 = y.f3) (h4 : x.f4 = y.f4) (h5 : x.f5 = y.f5) (h6 : x.f6 = y.f6) : x = y := by
  cases x; cases y; simp_all
theorem same_loop (x0 x1 : List S31) (hl : x0.length ≤ 1000000000) (he : x0.length = x1.length) : ∀ (m i : Nat), i + m = x0.length → ∃ b, silhouetteref12_Same.l0 (m + 1) x0 x1 (i : Int) = some b ∧ (b = true ↔ x0.drop i = x1.drop i) := by
  intro m
  induction m with
  | zero =>
    intro i hi
    refine ⟨true, ?_, ?_⟩
    · unfold silhouetteref12_Same.l0; rw [if_neg (by omega)]
    · rw [List.drop_of_length_le (by omega), List.drop_of_length_le (by omega)]; simp
  | succ m ih =>
    intro i hi
    have h0 : i < x0.length := by omega
    have h1 : i < x1.length := by omega
    have r0 : rd_T31 x0 (i : Int) = x0[i] := by unfold rd_T31; rw [Int.toNat_natCast, List.getD_eq_getElem?_getD, List.getElem?_eq_getElem h0]; rfl
    have r1 : rd_T31 x1 (i : Int) = x1[i] := by unfold rd_T31; rw [Int.toNat_natCast, List.getD_eq_getElem?_getD, List.getElem?_eq_getElem h1]; rfl
    have d0 : x0.drop i = x0[i] :: x0.drop (i + 1) := List.drop_eq_getElem_cons h0
    have d1 : x1.drop i = x1[i] :: x1.drop (i + 1) := List.drop_eq_getElem_cons h1
    unfold silhouetteref12_Same.l0
    rw [if_pos (by omega), if_pos (by omega), if_pos (by omega), r0, r1, d0, d1]
    generalize x0[i] = a
    generalize x1[i] = b
    obtain ⟨c, hc, hb⟩ := ih (i + 1) (by omega)
    by_cases hab : a = b
    · subst hab
      rw [if_neg (by simp), w64' (by omega) (by omega), show ((i : Int) + 1) = ((i + 1 : Nat) : Int) by omega, hc]
      exact ⟨c, rfl, by rw [hb]; simp⟩
    · refine ⟨false, ?_, by simp [hab]⟩
      rw [if_pos]
      by_cases g0 : a.f0 = b.f0
      · by_cases g1 : a.f1 = b.f1
        · by_cases g2 : a.f2 = b.f2
          · by_cases g3 : a.f3 = b.f3
            · by_cases g4 : a.f4 = b.f4
              · by_cases g5 : a.f5 = b.f5
                · by_cases g6 : a.f6 = b.f6
                  · exact absurd (S31.ext' g0 g1 g2 g3 g4 g5 g6) hab
                  · simp [g6]
                · simp [g5]
              · simp [g4]
            · simp [g3]
          · simp [g2]
        · simp [g1]
      · simp [g0]
theorem same_law (x0 x1 : List S31) (hl : x0.length ≤ 1000000000) : ∃ b, silhouetteref12_Same.f (x0.length + 1) x0 x1 = some b ∧ (b = true ↔ x0 = x1) := by
  unfold silhouetteref12_Same.f
  by_cases he : x0.length = x1.length
  · rw [if_pos (by omega)]
    obtain ⟨b, h, hb⟩ := same_loop x0 x1 hl he x0.length 0 (by omega)
    exact ⟨b, h, hb⟩
  · rw [if_neg (by omega)]
    exact ⟨false, rfl, by simp; intro e; rw [e] at he; exact he rfl⟩
end Go.Proofs.Ytmifcdmkobammaa.Q
