-- PRINTED by print.py (a twelfth state) out of the translation. Not trusted: Lean checks it.
import Derived.Test.YtmifcdmkobammaaQx0
import Derived.Test.YtmifcdmkobammaaRefAll
import Derived.Test.YtmifcdmkobammaaY3
import Derived.Test.YtmifcdmkobammaaY4
import Derived.Test.YtmifcdmkobammaaY5
namespace Go.Proofs.Ytmifcdmkobammaa.Q
open Go.RowKit Go.Proofs.YtmifcdmkobammaaW.PrintWords Go.Proofs.YtmifcdmkobammaaW.PrintLast Go.Proofs.YtmifcdmkobammaaW.PrintMore
open Go.Proofs.Ytmifcdmkobammaa.ScriptWalk (silhouetteref12_Right.f silhouetteref12_Right.calls)
attribute [local go_sem] max2_int min2_int max_two min_two max_three min_three max_four min_four   -- for this text's walks alone
set_option linter.unusedVariables false
set_option linter.unusedSimpArgs false

/-! ### silhouetteref12_Get: function 12 -/
mutual
def silhouetteref12_Get.l0 : Nat → List Int → List (S31) → Int → Option ((List (S31)) × Int × Int)
  | 0, _, _, _ => none
  | k + 1, x0, x5, x6 => if x6 < (x0.length : Int) then (if 0 ≤ x6 then (if (wrap64 (Int.tmod (rd x0 x6) 128)) > 8 then (some (x5, x6, 12)) else ((silhouetteref12_one.f k (wrap64 (Int.tmod (rd x0 x6) 128)) (decide ((rd x0 x6) ≥ 128)) 0 0 0 0 0).bind fun t170 => (if (t170.length : Int) > (wrap64 ((x0.length : Int) - x6)) then (some (x5, x6, 12)) else ((silhouetteref12_has.f k (wrap64 (Int.tmod (rd x0 x6) 128)) 65).bind fun t173 => (if t173 = true then (if 0 ≤ (wrap64 (x6 + 1)) then (if (wrap64 (x6 + 1)) ≤ (wrap64 ((wrap64 (x6 + 1)) + 8)) then (if (wrap64 ((wrap64 (x6 + 1)) + 8)) ≤ (x0.length : Int) then ((silhouetteref12_number.f k ((x0.take ((wrap64 ((wrap64 (x6 + 1)) + 8)) : Int).toNat).drop ((wrap64 (x6 + 1)) : Int).toNat)).bind fun t175 => (silhouetteref12_Get.j1 k x0 x5 x6 (t170.length : Int) (wrap64 ((wrap64 (x6 + 1)) + 8)) (wrap64 (Int.tmod (rd x0 x6) 128)) (decide ((rd x0 x6) ≥ 128)) t175 0 0 0 0)) else (none)) else (none)) else (none)) else (silhouetteref12_Get.j1 k x0 x5 x6 (t170.length : Int) (wrap64 (x6 + 1)) (wrap64 (Int.tmod (rd x0 x6) 128)) (decide ((rd x0 x6) ≥ 128)) 0 0 0 0 0)))))) else (none)) else (some (x5, x6, 0))
def silhouetteref12_Get.j1 : Nat → List Int → List (S31) → Int → Int → Int → Int → Bool → Int → Int → Int → Int → Int → Option ((List (S31)) × Int × Int)
  | 0, _, _, _, _, _, _, _, _, _, _, _, _ => none
  | k + 1, x0, x5, x6, x8, x9, x170000, x170001, x170002, x170003, x170004, x170005, x170006 => (silhouetteref12_has.f k x170000 71).bind fun t176 => (if t176 = true then (if 0 ≤ x9 then (if x9 < (x0.length : Int) then (silhouetteref12_Get.j2 k x0 x5 x6 x8 (wrap64 (x9 + 1)) x170000 x170001 x170002 x170003 (wrap64 (rd x0 x9)) x170005 x170006) else (none)) else (none)) else (silhouetteref12_Get.j2 k x0 x5 x6 x8 x9 x170000 x170001 x170002 x170003 x170004 x170005 x170006))
def silhouetteref12_Get.j2 : Nat → List Int → List (S31) → Int → Int → Int → Int → Bool → Int → Int → Int → Int → Int → Option ((List (S31)) × Int × Int)
  | 0, _, _, _, _, _, _, _, _, _, _, _, _ => none
  | k + 1, x0, x5, x6, x8, x9, x170000, x170001, x170002, x170003, x170004, x170005, x170006 => (silhouetteref12_has.f k x170000 73).bind fun t178 => (if t178 = true then (if 0 ≤ x9 then (if x9 < (x0.length : Int) then (silhouetteref12_Get.j3 k x0 x5 x6 x8 (wrap64 (x9 + 1)) x170000 x170001 x170002 x170003 x170004 (wrap64 (rd x0 x9)) x170006) else (none)) else (none)) else (silhouetteref12_Get.j3 k x0 x5 x6 x8 x9 x170000 x170001 x170002 x170003 x170004 x170005 x170006))
def silhouetteref12_Get.j3 : Nat → List Int → List (S31) → Int → Int → Int → Int → Bool → Int → Int → Int → Int → Int → Option ((List (S31)) × Int × Int)
  | 0, _, _, _, _, _, _, _, _, _, _, _, _ => none
  | k + 1, x0, x5, x6, x8, x9, x170000, x170001, x170002, x170003, x170004, x170005, x170006 => (silhouetteref12_has.f k x170000 86).bind fun t180 => (if t180 = true then (if 0 ≤ x9 then (if x9 ≤ (wrap64 (x9 + 8)) then (if (wrap64 (x9 + 8)) ≤ (x0.length : Int) then ((silhouetteref12_number.f k ((x0.take ((wrap64 (x9 + 8)) : Int).toNat).drop (x9 : Int).toNat)).bind fun t182 => (silhouetteref12_Get.j4 k x0 x5 x6 x8 x9 x170000 x170001 x170002 t182 x170004 x170005 x170006)) else (none)) else (none)) else (none)) else (silhouetteref12_Get.j4 k x0 x5 x6 x8 x9 x170000 x170001 x170002 x170003 x170004 x170005 x170006))
def silhouetteref12_Get.j4 : Nat → List Int → List (S31) → Int → Int → Int → Int → Bool → Int → Int → Int → Int → Int → Option ((List (S31)) × Int × Int)
  | 0, _, _, _, _, _, _, _, _, _, _, _, _ => none
  | k + 1, x0, x5, x6, x8, x9, x170000, x170001, x170002, x170003, x170004, x170005, x170006 => (silhouetteref12_has.f k x170000 78).bind fun t183 => (if t183 = true then (if 0 ≤ x9 then (if x9 < (x0.length : Int) then ((silhouetteref12_Right.f x170000 x170001 x170002 x170003 x170004 x170005 (wrap64 (rd x0 x9))).bind fun t185 => (if t185 = true then (if x5.length < 2513169434916 then (silhouetteref12_Get.l0 k x0 (x5 ++ [(⟨x170000, x170001, x170002, x170003, x170004, x170005, wrap64 (rd x0 x9)⟩ : S31)]) (wrap64 (x6 + x8))) else (none)) else (some (x5, x6, 12)))) else (none)) else (none)) else ((silhouetteref12_Right.f x170000 x170001 x170002 x170003 x170004 x170005 x170006).bind fun t189 => (if t189 = true then (if x5.length < 2513169434916 then (silhouetteref12_Get.l0 k x0 (x5 ++ [(⟨x170000, x170001, x170002, x170003, x170004, x170005, x170006⟩ : S31)]) (wrap64 (x6 + x8))) else (none)) else (some (x5, x6, 12)))))
end
def silhouetteref12_Get.f (k : Nat) (l0 : List Int) : Option ((List (S31)) × Int × Int) := silhouetteref12_Get.l0 k l0 ([] : List (S31)) 0
theorem silhouetteref12_Get.mono_l : ∀ k, (∀ y0 y1 y2, LeO (silhouetteref12_Get.l0 k y0 y1 y2) (silhouetteref12_Get.l0 (k + 1) y0 y1 y2)) ∧ (∀ y0 y1 y2 y3 y4 y5 y6 y7 y8 y9 y10 y11, LeO (silhouetteref12_Get.j1 k y0 y1 y2 y3 y4 y5 y6 y7 y8 y9 y10 y11) (silhouetteref12_Get.j1 (k + 1) y0 y1 y2 y3 y4 y5 y6 y7 y8 y9 y10 y11)) ∧ (∀ y0 y1 y2 y3 y4 y5 y6 y7 y8 y9 y10 y11, LeO (silhouetteref12_Get.j2 k y0 y1 y2 y3 y4 y5 y6 y7 y8 y9 y10 y11) (silhouetteref12_Get.j2 (k + 1) y0 y1 y2 y3 y4 y5 y6 y7 y8 y9 y10 y11)) ∧ (∀ y0 y1 y2 y3 y4 y5 y6 y7 y8 y9 y10 y11, LeO (silhouetteref12_Get.j3 k y0 y1 y2 y3 y4 y5 y6 y7 y8 y9 y10 y11) (silhouetteref12_Get.j3 (k + 1) y0 y1 y2 y3 y4 y5 y6 y7 y8 y9 y10 y11)) ∧ (∀ y0 y1 y2 y3 y4 y5 y6 y7 y8 y9 y10 y11, LeO (silhouetteref12_Get.j4 k y0 y1 y2 y3 y4 y5 y6 y7 y8 y9 y10 y11) (silhouetteref12_Get.j4 (k + 1) y0 y1 y2 y3 y4 y5 y6 y7 y8 y9 y10 y11))
  | 0 => ⟨fun _ _ _ r h => by simp [silhouetteref12_Get.l0] at h, fun _ _ _ _ _ _ _ _ _ _ _ _ r h => by simp [silhouetteref12_Get.j1] at h, fun _ _ _ _ _ _ _ _ _ _ _ _ r h => by simp [silhouetteref12_Get.j2] at h, fun _ _ _ _ _ _ _ _ _ _ _ _ r h => by simp [silhouetteref12_Get.j3] at h, fun _ _ _ _ _ _ _ _ _ _ _ _ r h => by simp [silhouetteref12_Get.j4] at h⟩
  | k + 1 => by
    obtain ⟨ih0, ih1, ih2, ih3, ih4⟩ := silhouetteref12_Get.mono_l k
    refine ⟨?_, ?_, ?_, ?_, ?_⟩
    · intro y0 y1 y2
      unfold silhouetteref12_Get.l0
      repeat' first
      | (with_reducible exact ih0 _ _ _)
      | (with_reducible exact ih1 _ _ _ _ _ _ _ _ _ _ _ _)
      | (with_reducible exact ih2 _ _ _ _ _ _ _ _ _ _ _ _)
      | (with_reducible exact ih3 _ _ _ _ _ _ _ _ _ _ _ _)
      | (with_reducible exact ih4 _ _ _ _ _ _ _ _ _ _ _ _)
      | (with_reducible exact silhouetteref12_has.mono _ _ _)
      | (with_reducible exact silhouetteref12_number.mono _ _)
      | (with_reducible exact silhouetteref12_one.mono _ _ _ _ _ _ _ _)
      | (with_reducible exact LeO.refl _)
      | (with_reducible exact LeO.none _)
      | (with_reducible refine LeO.ite ?_ ?_)
      | (with_reducible refine LeO.bind ?_ (fun _ => ?_))
      | exact ih0 _ _ _
      | exact ih1 _ _ _ _ _ _ _ _ _ _ _ _
      | exact ih2 _ _ _ _ _ _ _ _ _ _ _ _
      | exact ih3 _ _ _ _ _ _ _ _ _ _ _ _
      | exact ih4 _ _ _ _ _ _ _ _ _ _ _ _
      | exact silhouetteref12_has.mono _ _ _
      | exact silhouetteref12_number.mono _ _
      | exact silhouetteref12_one.mono _ _ _ _ _ _ _ _
      | exact LeO.none _
      | refine LeO.ite ?_ ?_
      | refine LeO.bind ?_ (fun _ => ?_)
    · intro y0 y1 y2 y3 y4 y5 y6 y7 y8 y9 y10 y11
      unfold silhouetteref12_Get.j1
      repeat' first
      | (with_reducible exact ih0 _ _ _)
      | (with_reducible exact ih1 _ _ _ _ _ _ _ _ _ _ _ _)
      | (with_reducible exact ih2 _ _ _ _ _ _ _ _ _ _ _ _)
      | (with_reducible exact ih3 _ _ _ _ _ _ _ _ _ _ _ _)
      | (with_reducible exact ih4 _ _ _ _ _ _ _ _ _ _ _ _)
      | (with_reducible exact silhouetteref12_has.mono _ _ _)
      | (with_reducible exact silhouetteref12_number.mono _ _)
      | (with_reducible exact silhouetteref12_one.mono _ _ _ _ _ _ _ _)
      | (with_reducible exact LeO.refl _)
      | (with_reducible exact LeO.none _)
      | (with_reducible refine LeO.ite ?_ ?_)
      | (with_reducible refine LeO.bind ?_ (fun _ => ?_))
      | exact ih0 _ _ _
      | exact ih1 _ _ _ _ _ _ _ _ _ _ _ _
      | exact ih2 _ _ _ _ _ _ _ _ _ _ _ _
      | exact ih3 _ _ _ _ _ _ _ _ _ _ _ _
      | exact ih4 _ _ _ _ _ _ _ _ _ _ _ _
      | exact silhouetteref12_has.mono _ _ _
      | exact silhouetteref12_number.mono _ _
      | exact silhouetteref12_one.mono _ _ _ _ _ _ _ _
      | exact LeO.none _
      | refine LeO.ite ?_ ?_
      | refine LeO.bind ?_ (fun _ => ?_)
    · intro y0 y1 y2 y3 y4 y5 y6 y7 y8 y9 y10 y11
      unfold silhouetteref12_Get.j2
      repeat' first
      | (with_reducible exact ih0 _ _ _)
      | (with_reducible exact ih1 _ _ _ _ _ _ _ _ _ _ _ _)
      | (with_reducible exact ih2 _ _ _ _ _ _ _ _ _ _ _ _)
      | (with_reducible exact ih3 _ _ _ _ _ _ _ _ _ _ _ _)
      | (with_reducible exact ih4 _ _ _ _ _ _ _ _ _ _ _ _)
      | (with_reducible exact silhouetteref12_has.mono _ _ _)
      | (with_reducible exact silhouetteref12_number.mono _ _)
      | (with_reducible exact silhouetteref12_one.mono _ _ _ _ _ _ _ _)
      | (with_reducible exact LeO.refl _)
      | (with_reducible exact LeO.none _)
      | (with_reducible refine LeO.ite ?_ ?_)
      | (with_reducible refine LeO.bind ?_ (fun _ => ?_))
      | exact ih0 _ _ _
      | exact ih1 _ _ _ _ _ _ _ _ _ _ _ _
      | exact ih2 _ _ _ _ _ _ _ _ _ _ _ _
      | exact ih3 _ _ _ _ _ _ _ _ _ _ _ _
      | exact ih4 _ _ _ _ _ _ _ _ _ _ _ _
      | exact silhouetteref12_has.mono _ _ _
      | exact silhouetteref12_number.mono _ _
      | exact silhouetteref12_one.mono _ _ _ _ _ _ _ _
      | exact LeO.none _
      | refine LeO.ite ?_ ?_
      | refine LeO.bind ?_ (fun _ => ?_)
    · intro y0 y1 y2 y3 y4 y5 y6 y7 y8 y9 y10 y11
      unfold silhouetteref12_Get.j3
      repeat' first
      | (with_reducible exact ih0 _ _ _)
      | (with_reducible exact ih1 _ _ _ _ _ _ _ _ _ _ _ _)
      | (with_reducible exact ih2 _ _ _ _ _ _ _ _ _ _ _ _)
      | (with_reducible exact ih3 _ _ _ _ _ _ _ _ _ _ _ _)
      | (with_reducible exact ih4 _ _ _ _ _ _ _ _ _ _ _ _)
      | (with_reducible exact silhouetteref12_has.mono _ _ _)
      | (with_reducible exact silhouetteref12_number.mono _ _)
      | (with_reducible exact silhouetteref12_one.mono _ _ _ _ _ _ _ _)
      | (with_reducible exact LeO.refl _)
      | (with_reducible exact LeO.none _)
      | (with_reducible refine LeO.ite ?_ ?_)
      | (with_reducible refine LeO.bind ?_ (fun _ => ?_))
      | exact ih0 _ _ _
      | exact ih1 _ _ _ _ _ _ _ _ _ _ _ _
      | exact ih2 _ _ _ _ _ _ _ _ _ _ _ _
      | exact ih3 _ _ _ _ _ _ _ _ _ _ _ _
      | exact ih4 _ _ _ _ _ _ _ _ _ _ _ _
      | exact silhouetteref12_has.mono _ _ _
      | exact silhouetteref12_number.mono _ _
      | exact silhouetteref12_one.mono _ _ _ _ _ _ _ _
      | exact LeO.none _
      | refine LeO.ite ?_ ?_
      | refine LeO.bind ?_ (fun _ => ?_)
    · intro y0 y1 y2 y3 y4 y5 y6 y7 y8 y9 y10 y11
      unfold silhouetteref12_Get.j4
      repeat' first
      | (with_reducible exact ih0 _ _ _)
      | (with_reducible exact ih1 _ _ _ _ _ _ _ _ _ _ _ _)
      | (with_reducible exact ih2 _ _ _ _ _ _ _ _ _ _ _ _)
      | (with_reducible exact ih3 _ _ _ _ _ _ _ _ _ _ _ _)
      | (with_reducible exact ih4 _ _ _ _ _ _ _ _ _ _ _ _)
      | (with_reducible exact silhouetteref12_has.mono _ _ _)
      | (with_reducible exact silhouetteref12_number.mono _ _)
      | (with_reducible exact silhouetteref12_one.mono _ _ _ _ _ _ _ _)
      | (with_reducible exact LeO.refl _)
      | (with_reducible exact LeO.none _)
      | (with_reducible refine LeO.ite ?_ ?_)
      | (with_reducible refine LeO.bind ?_ (fun _ => ?_))
      | exact ih0 _ _ _
      | exact ih1 _ _ _ _ _ _ _ _ _ _ _ _
      | exact ih2 _ _ _ _ _ _ _ _ _ _ _ _
      | exact ih3 _ _ _ _ _ _ _ _ _ _ _ _
      | exact ih4 _ _ _ _ _ _ _ _ _ _ _ _
      | exact silhouetteref12_has.mono _ _ _
      | exact silhouetteref12_number.mono _ _
      | exact silhouetteref12_one.mono _ _ _ _ _ _ _ _
      | exact LeO.none _
      | refine LeO.ite ?_ ?_
      | refine LeO.bind ?_ (fun _ => ?_)
theorem silhouetteref12_Get.mono : ∀ a0 k, LeO (silhouetteref12_Get.f k a0) (silhouetteref12_Get.f (k + 1) a0) := by
  intro a0 k
  obtain ⟨ih0, ih1, ih2, ih3, ih4⟩ := silhouetteref12_Get.mono_l k
  unfold silhouetteref12_Get.f
  repeat' first
      | (with_reducible exact ih0 _ _ _)
      | (with_reducible exact ih1 _ _ _ _ _ _ _ _ _ _ _ _)
      | (with_reducible exact ih2 _ _ _ _ _ _ _ _ _ _ _ _)
      | (with_reducible exact ih3 _ _ _ _ _ _ _ _ _ _ _ _)
      | (with_reducible exact ih4 _ _ _ _ _ _ _ _ _ _ _ _)
      | (with_reducible exact silhouetteref12_has.mono _ _ _)
      | (with_reducible exact silhouetteref12_number.mono _ _)
      | (with_reducible exact silhouetteref12_one.mono _ _ _ _ _ _ _ _)
      | (with_reducible exact LeO.refl _)
      | (with_reducible exact LeO.none _)
      | (with_reducible refine LeO.ite ?_ ?_)
      | (with_reducible refine LeO.bind ?_ (fun _ => ?_))
      | exact ih0 _ _ _
      | exact ih1 _ _ _ _ _ _ _ _ _ _ _ _
      | exact ih2 _ _ _ _ _ _ _ _ _ _ _ _
      | exact ih3 _ _ _ _ _ _ _ _ _ _ _ _
      | exact ih4 _ _ _ _ _ _ _ _ _ _ _ _
      | exact silhouetteref12_has.mono _ _ _
      | exact silhouetteref12_number.mono _ _
      | exact silhouetteref12_one.mono _ _ _ _ _ _ _ _
      | exact LeO.none _
      | refine LeO.ite ?_ ?_
      | refine LeO.bind ?_ (fun _ => ?_)
end Go.Proofs.Ytmifcdmkobammaa.Q
