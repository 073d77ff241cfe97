/- Layer 6: the walk of RightParts where it answers true, some of its ways (out of the print's own text). -/
import Derived.Test.YtiiaififiijcnaaPRightMeetx0
import Derived.Test.YtiiaififiijcnaaPRightMeetx1
import Derived.Test.YtiiaififiijcnaaPRightMeetx2
import Derived.Test.YtiiaififiijcnaaWayHead
namespace Go.Proofs.Ytiiaififiijcnaa.PRightMeet
open Go.RowKit Go.Proofs.YtiiaififiijcnaaW.PrintWords Go.Proofs.YtiiaififiijcnaaW.PrintLast Go.Proofs.YtiiaififiijcnaaW.PrintMore
attribute [local go_sem] max2_int min2_int max_two min_two max_three min_three max_four min_four   -- for this text's walks alone
set_option linter.unusedVariables false
set_option linter.unusedSimpArgs false

attribute [local go_sem high] eqA26
/-! ### silhouettelaw06_RightParts: function 8 -/
def silhouettelaw06_RightParts.j0 : Nat → List (S26) → List (S26) → Bool → Bool → Bool → Bool → Bool → Bool → Bool → Bool → Option (Bool)
  | 0, _, _, _, _, _, _, _, _, _, _ => none
  | k + 1, x0, x1, x9, x20, x154000, x154001, x154002, x155000, x155001, x155002 => if x20 = true then (some x9) else ((some (([] : List (S26)) : List (S26))).bind fun y156 => (if y156.length + x0.length < 46912496118442 then ((some (y156 ++ x0 : List (S26))).bind fun y159 => (if y159.length + x1.length < 46912496118442 then ((right_Meet.f k (([(⟨x154000, x154001, x154002⟩ : S26), (⟨x155000, x155001, x155002⟩ : S26)] : List (S26)))).bind fun bt168 => (if x9 = true then ((right_Meet.f k (y159 ++ x1)).bind fun bt172 => ((right_Meet.f k x0).bind fun bt175 => ((right_Meet.f k x1).bind fun bt178 => ((right_Meet.f k (([(⟨bt175.1, bt175.2.1, bt175.2.2⟩ : S26), (⟨bt178.1, bt178.2.1, bt178.2.2⟩ : S26)] : List (S26)))).bind fun bt184 => (if (bt172.1 == bt184.1 && (bt172.2.1 == bt184.2.1 && (bt172.2.2 == bt184.2.2))) = true then (if x154000 = true then (if x154001 = true then (if x154002 = true then (if (bt168.1 == x155000 && (bt168.2.1 == x155001 && (bt168.2.2 == x155002))) = true then ((right_Meet.f k (([(⟨x154000, x154001, x154002⟩ : S26)] : List (S26)))).bind fun bt190 => (some (bt190.1 == x154000 && (bt190.2.1 == x154001 && (bt190.2.2 == x154002))))) else (some false)) else (if (bt168.1 == x155000 && (bt168.2.1 == x155001 && (!bt168.2.2))) = true then ((right_Meet.f k (([(⟨x154000, x154001, x154002⟩ : S26)] : List (S26)))).bind fun bt196 => (some (bt196.1 == x154000 && (bt196.2.1 == x154001 && (bt196.2.2 == x154002))))) else (some false))) else (if x154002 = true then (if (bt168.1 == x155000 && (!bt168.2.1 && (bt168.2.2 == x155002))) = true then ((right_Meet.f k (([(⟨x154000, x154001, x154002⟩ : S26)] : List (S26)))).bind fun bt202 => (some (bt202.1 == x154000 && (bt202.2.1 == x154001 && (bt202.2.2 == x154002))))) else (some false)) else (if (bt168.1 == x155000 && (!bt168.2.1 && (!bt168.2.2))) = true then ((right_Meet.f k (([(⟨x154000, x154001, x154002⟩ : S26)] : List (S26)))).bind fun bt208 => (some (bt208.1 == x154000 && (bt208.2.1 == x154001 && (bt208.2.2 == x154002))))) else (some false)))) else (if x154001 = true then (if x154002 = true then (if (!bt168.1 && (bt168.2.1 == x155001 && (bt168.2.2 == x155002))) = true then ((right_Meet.f k (([(⟨x154000, x154001, x154002⟩ : S26)] : List (S26)))).bind fun bt214 => (some (bt214.1 == x154000 && (bt214.2.1 == x154001 && (bt214.2.2 == x154002))))) else (some false)) else (if (!bt168.1 && (bt168.2.1 == x155001 && (!bt168.2.2))) = true then ((right_Meet.f k (([(⟨x154000, x154001, x154002⟩ : S26)] : List (S26)))).bind fun bt220 => (some (bt220.1 == x154000 && (bt220.2.1 == x154001 && (bt220.2.2 == x154002))))) else (some false))) else (if x154002 = true then (if (!bt168.1 && (!bt168.2.1 && (bt168.2.2 == x155002))) = true then ((right_Meet.f k (([(⟨x154000, x154001, x154002⟩ : S26)] : List (S26)))).bind fun bt226 => (some (bt226.1 == x154000 && (bt226.2.1 == x154001 && (bt226.2.2 == x154002))))) else (some false)) else (if (!bt168.1 && (!bt168.2.1 && (!bt168.2.2))) = true then ((right_Meet.f k (([(⟨x154000, x154001, x154002⟩ : S26)] : List (S26)))).bind fun bt232 => (some (bt232.1 == x154000 && (bt232.2.1 == x154001 && (bt232.2.2 == x154002))))) else (some false))))) else (some false)))))) else (some false))) else (none))) else (none)))
def silhouettelaw06_RightParts.f (k : Nat) (l0 : List (S26)) (l1 : List (S26)) (a2_0 : Bool) (a2_1 : Bool) (a2_2 : Bool) (a3_0 : Bool) (a3_1 : Bool) (a3_2 : Bool) : Option (Bool) := (silhouettelaw06_head.f k).bind fun t155 => (if (l0.length : Int) > 400 then (silhouettelaw06_RightParts.j0 k l0 l1 t155 true a2_0 a2_1 a2_2 a3_0 a3_1 a3_2) else (silhouettelaw06_RightParts.j0 k l0 l1 t155 (decide ((l1.length : Int) > 400)) a2_0 a2_1 a2_2 a3_0 a3_1 a3_2))
theorem silhouettelaw06_RightParts.mono_l : ∀ k, (∀ y0 y1 y2 y3 y4 y5 y6 y7 y8 y9, LeO (silhouettelaw06_RightParts.j0 k y0 y1 y2 y3 y4 y5 y6 y7 y8 y9) (silhouettelaw06_RightParts.j0 (k + 1) y0 y1 y2 y3 y4 y5 y6 y7 y8 y9))
  | 0 => fun _ _ _ _ _ _ _ _ _ _ r h => by simp [silhouettelaw06_RightParts.j0] at h
  | k + 1 => by
    have ih0 := silhouettelaw06_RightParts.mono_l k
    · intro y0 y1 y2 y3 y4 y5 y6 y7 y8 y9
      unfold silhouettelaw06_RightParts.j0
      repeat' first
      | (with_reducible exact ih0 _ _ _ _ _ _ _ _ _ _)
      | (with_reducible exact right_Meet.mono _ _)
      | (with_reducible exact silhouettelaw06_head.mono _)
      | (with_reducible exact LeO.refl _)
      | (with_reducible exact LeO.none _)
      | (with_reducible refine LeO.ite ?_ ?_)
      | (with_reducible refine LeO.bind ?_ (fun _ => ?_))
      | exact ih0 _ _ _ _ _ _ _ _ _ _
      | exact right_Meet.mono _ _
      | exact silhouettelaw06_head.mono _
      | exact LeO.none _
      | refine LeO.ite ?_ ?_
      | refine LeO.bind ?_ (fun _ => ?_)
theorem silhouettelaw06_RightParts.mono : ∀ a0 a1 a2 a3 a4 a5 a6 a7 k, LeO (silhouettelaw06_RightParts.f k a0 a1 a2 a3 a4 a5 a6 a7) (silhouettelaw06_RightParts.f (k + 1) a0 a1 a2 a3 a4 a5 a6 a7) := by
  intro a0 a1 a2 a3 a4 a5 a6 a7 k
  have ih0 := silhouettelaw06_RightParts.mono_l k
  unfold silhouettelaw06_RightParts.f
  repeat' first
      | (with_reducible exact ih0 _ _ _ _ _ _ _ _ _ _)
      | (with_reducible exact right_Meet.mono _ _)
      | (with_reducible exact silhouettelaw06_head.mono _)
      | (with_reducible exact LeO.refl _)
      | (with_reducible exact LeO.none _)
      | (with_reducible refine LeO.ite ?_ ?_)
      | (with_reducible refine LeO.bind ?_ (fun _ => ?_))
      | exact ih0 _ _ _ _ _ _ _ _ _ _
      | exact right_Meet.mono _ _
      | exact silhouettelaw06_head.mono _
      | exact LeO.none _
      | refine LeO.ite ?_ ?_
      | refine LeO.bind ?_ (fun _ => ?_)
def silhouettelaw06_RightParts.T6 : Bool × List (List Nat × List Nat) := (true, [([], []), ([0], [0]), ([1], [1]), ([2, 1, 1], [1, 2]), ([1], [1]), ([4, 3, 1], [1, 4]), ([1], [1]), ([6, 5, 1], [1, 6]), ([5, 7, 1], [1, 5, 7]), ([8, 7, 1], [1, 8]), ([3, 9, 1], [1, 3, 9]), ([1, 10], [1, 10]), ([11, 9], [11]), ([12], [12]), ([12], [12]), ([14, 12], [12, 14]), ([15, 12, 12], [12, 15]), ([16], [16]), ([17, 16], [16, 17]), ([16, 18, 12], [12, 16, 18]), ([12], [12]), ([20, 12], [12, 20]), ([21, 16, 12], [12, 21]), ([22], [22]), ([23, 22], [22, 23]), ([22, 24, 12], [12, 22, 24]), ([12], [12]), ([26, 12], [12, 26]), ([27, 22, 12], [12, 27]), ([28], [28]), ([29, 28], [28, 29]), ([28, 30, 12], [12, 28, 30]), ([19, 25, 31, 12], [12, 19, 25, 31]), ([13, 32, 12], [12, 13, 32]), ([12, 33], [12, 33]), ([34, 28], [34]), ([35], [35]), ([36, 35], [35, 36]), ([37, 35, 35], [35, 37]), ([35], [35]), ([38, 39, 35], [35, 38, 39]), ([35, 40], [35, 40]), ([41, 38, 0, 1, 2, 3, 4, 5, 6, 7, 8, 9, 10, 11, 12, 13, 14, 15, 16, 17, 18, 19, 20, 21, 22, 23, 24, 25, 26, 27, 28, 29, 30, 31, 32, 33, 34, 35, 36, 37, 38, 39, 40, 41], [41])])
def silhouettelaw06_RightParts.B6 : List Nat := [0, 1, 3, 7, 3, 31, 3, 127, 255, 511, 1023, 2047, 4095, 8191, 8191, 24575, 57343, 122879, 253951, 516095, 8191, 1056767, 3268607, 7462911, 15851519, 32628735, 8191, 67117055, 208789503, 477224959, 1014095871, 2087837695, 4294959103, 8589934591, 17179869183, 34359738367, 68719476735, 137438953471, 274877906943, 68719476735, 1099511627775, 2199023255551, 4398046511103]
theorem silhouettelaw06_RightParts.tab6 : rtab .any (opsOf Try.f8 6) = silhouettelaw06_RightParts.T6 := by kernel_rfl
theorem silhouettelaw06_RightParts.bits6 : waitsOk silhouettelaw06_RightParts.T6.2 silhouettelaw06_RightParts.B6 = true := by kernel_rfl
abbrev AL0 : Array Bool := #[false, false, false, false, false, false, false, false, false, false, false, false, false, false, false, false, false, false, false, false, false, false, false, false, false, false, false, false, false, false, false, false, false, false, false, false, false, false, false, false, false, false, false]
abbrev AL1 : Array Bool := #[true, false, false, false, false, false, false, false, false, false, false, false, false, false, false, false, false, false, false, false, false, false, false, false, false, false, false, false, false, false, false, false, false, false, false, false, false, false, false, false, false, false, false]
abbrev AL2 : Array Bool := #[true, true, false, false, false, false, false, false, false, false, false, false, false, false, false, false, false, false, false, false, false, false, false, false, false, false, false, false, false, false, false, false, false, false, false, false, false, false, false, false, false, false, false]
abbrev AL3 : Array Bool := #[true, true, true, false, false, false, false, false, false, false, false, false, false, false, false, false, false, false, false, false, false, false, false, false, false, false, false, false, false, false, false, false, false, false, false, false, false, false, false, false, false, false, false]
abbrev AL4 : Array Bool := #[true, true, true, false, true, false, false, false, false, false, false, false, false, false, false, false, false, false, false, false, false, false, false, false, false, false, false, false, false, false, false, false, false, false, false, false, false, false, false, false, false, false, false]
abbrev AL5 : Array Bool := #[true, true, true, false, true, false, true, false, false, false, false, false, false, false, false, false, false, false, false, false, false, false, false, false, false, false, false, false, false, false, false, false, false, false, false, false, false, false, false, false, false, false, false]
abbrev AL6 : Array Bool := #[true, true, true, true, true, false, true, false, false, false, false, false, false, false, false, false, false, false, false, false, false, false, false, false, false, false, false, false, false, false, false, false, false, false, false, false, false, false, false, false, false, false, false]
abbrev AL7 : Array Bool := #[true, true, true, true, true, true, true, false, false, false, false, false, false, false, false, false, false, false, false, false, false, false, false, false, false, false, false, false, false, false, false, false, false, false, false, false, false, false, false, false, false, false, false]
abbrev AL8 : Array Bool := #[true, true, true, true, true, true, true, true, false, false, false, false, false, false, false, false, false, false, false, false, false, false, false, false, false, false, false, false, false, false, false, false, false, false, false, false, false, false, false, false, false, false, false]
abbrev AL9 : Array Bool := #[true, true, true, true, true, true, true, true, true, false, false, false, false, false, false, false, false, false, false, false, false, false, false, false, false, false, false, false, false, false, false, false, false, false, false, false, false, false, false, false, false, false, false]
abbrev AL10 : Array Bool := #[true, true, true, true, true, true, true, true, true, true, false, false, false, false, false, false, false, false, false, false, false, false, false, false, false, false, false, false, false, false, false, false, false, false, false, false, false, false, false, false, false, false, false]
abbrev AL11 : Array Bool := #[true, true, true, true, true, true, true, true, true, true, true, false, false, false, false, false, false, false, false, false, false, false, false, false, false, false, false, false, false, false, false, false, false, false, false, false, false, false, false, false, false, false, false]
abbrev AL12 : Array Bool := #[true, true, true, true, true, true, true, true, true, true, true, true, false, false, false, false, false, false, false, false, false, false, false, false, false, false, false, false, false, false, false, false, false, false, false, false, false, false, false, false, false, false, false]
abbrev AL13 : Array Bool := #[true, true, true, true, true, true, true, true, true, true, true, true, true, false, false, false, false, false, false, false, false, false, false, false, false, false, false, false, false, false, false, false, false, false, false, false, false, false, false, false, false, false, false]
abbrev AL14 : Array Bool := #[true, true, true, true, true, true, true, true, true, true, true, true, true, false, true, false, false, false, false, false, false, false, false, false, false, false, false, false, false, false, false, false, false, false, false, false, false, false, false, false, false, false, false]
abbrev AL15 : Array Bool := #[true, true, true, true, true, true, true, true, true, true, true, true, true, false, true, false, false, false, false, false, true, false, false, false, false, false, false, false, false, false, false, false, false, false, false, false, false, false, false, false, false, false, false]
abbrev AL16 : Array Bool := #[true, true, true, true, true, true, true, true, true, true, true, true, true, false, true, false, false, false, false, false, true, false, false, false, false, false, true, false, false, false, false, false, false, false, false, false, false, false, false, false, false, false, false]
abbrev AL17 : Array Bool := #[true, true, true, true, true, true, true, true, true, true, true, true, true, true, true, false, false, false, false, false, true, false, false, false, false, false, true, false, false, false, false, false, false, false, false, false, false, false, false, false, false, false, false]
abbrev AL18 : Array Bool := #[true, true, true, true, true, true, true, true, true, true, true, true, true, true, true, true, false, false, false, false, true, false, false, false, false, false, true, false, false, false, false, false, false, false, false, false, false, false, false, false, false, false, false]
abbrev AL19 : Array Bool := #[true, true, true, true, true, true, true, true, true, true, true, true, true, true, true, true, true, false, false, false, true, false, false, false, false, false, true, false, false, false, false, false, false, false, false, false, false, false, false, false, false, false, false]
abbrev AL20 : Array Bool := #[true, true, true, true, true, true, true, true, true, true, true, true, true, true, true, true, true, true, false, false, true, false, false, false, false, false, true, false, false, false, false, false, false, false, false, false, false, false, false, false, false, false, false]
abbrev AL21 : Array Bool := #[true, true, true, true, true, true, true, true, true, true, true, true, true, true, true, true, true, true, true, false, true, false, false, false, false, false, true, false, false, false, false, false, false, false, false, false, false, false, false, false, false, false, false]
abbrev AL22 : Array Bool := #[true, true, true, true, true, true, true, true, true, true, true, true, true, true, true, true, true, true, true, true, true, false, false, false, false, false, true, false, false, false, false, false, false, false, false, false, false, false, false, false, false, false, false]
abbrev AL23 : Array Bool := #[true, true, true, true, true, true, true, true, true, true, true, true, true, true, true, true, true, true, true, true, true, true, false, false, false, false, true, false, false, false, false, false, false, false, false, false, false, false, false, false, false, false, false]
abbrev AL24 : Array Bool := #[true, true, true, true, true, true, true, true, true, true, true, true, true, true, true, true, true, true, true, true, true, true, true, false, false, false, true, false, false, false, false, false, false, false, false, false, false, false, false, false, false, false, false]
abbrev AL25 : Array Bool := #[true, true, true, true, true, true, true, true, true, true, true, true, true, true, true, true, true, true, true, true, true, true, true, true, false, false, true, false, false, false, false, false, false, false, false, false, false, false, false, false, false, false, false]
abbrev AL26 : Array Bool := #[true, true, true, true, true, true, true, true, true, true, true, true, true, true, true, true, true, true, true, true, true, true, true, true, true, false, true, false, false, false, false, false, false, false, false, false, false, false, false, false, false, false, false]
abbrev AL27 : Array Bool := #[true, true, true, true, true, true, true, true, true, true, true, true, true, true, true, true, true, true, true, true, true, true, true, true, true, true, true, false, false, false, false, false, false, false, false, false, false, false, false, false, false, false, false]
abbrev AL28 : Array Bool := #[true, true, true, true, true, true, true, true, true, true, true, true, true, true, true, true, true, true, true, true, true, true, true, true, true, true, true, true, false, false, false, false, false, false, false, false, false, false, false, false, false, false, false]
abbrev AL29 : Array Bool := #[true, true, true, true, true, true, true, true, true, true, true, true, true, true, true, true, true, true, true, true, true, true, true, true, true, true, true, true, true, false, false, false, false, false, false, false, false, false, false, false, false, false, false]
abbrev AL30 : Array Bool := #[true, true, true, true, true, true, true, true, true, true, true, true, true, true, true, true, true, true, true, true, true, true, true, true, true, true, true, true, true, true, false, false, false, false, false, false, false, false, false, false, false, false, false]
abbrev AL31 : Array Bool := #[true, true, true, true, true, true, true, true, true, true, true, true, true, true, true, true, true, true, true, true, true, true, true, true, true, true, true, true, true, true, true, false, false, false, false, false, false, false, false, false, false, false, false]
abbrev AL32 : Array Bool := #[true, true, true, true, true, true, true, true, true, true, true, true, true, true, true, true, true, true, true, true, true, true, true, true, true, true, true, true, true, true, true, true, false, false, false, false, false, false, false, false, false, false, false]
abbrev AL33 : Array Bool := #[true, true, true, true, true, true, true, true, true, true, true, true, true, true, true, true, true, true, true, true, true, true, true, true, true, true, true, true, true, true, true, true, true, false, false, false, false, false, false, false, false, false, false]
abbrev AL34 : Array Bool := #[true, true, true, true, true, true, true, true, true, true, true, true, true, true, true, true, true, true, true, true, true, true, true, true, true, true, true, true, true, true, true, true, true, true, false, false, false, false, false, false, false, false, false]
abbrev AL35 : Array Bool := #[true, true, true, true, true, true, true, true, true, true, true, true, true, true, true, true, true, true, true, true, true, true, true, true, true, true, true, true, true, true, true, true, true, true, true, false, false, false, false, false, false, false, false]
abbrev AL36 : Array Bool := #[true, true, true, true, true, true, true, true, true, true, true, true, true, true, true, true, true, true, true, true, true, true, true, true, true, true, true, true, true, true, true, true, true, true, true, true, false, false, false, false, false, false, false]
abbrev AL37 : Array Bool := #[true, true, true, true, true, true, true, true, true, true, true, true, true, true, true, true, true, true, true, true, true, true, true, true, true, true, true, true, true, true, true, true, true, true, true, true, true, false, false, false, false, false, false]
abbrev AL38 : Array Bool := #[true, true, true, true, true, true, true, true, true, true, true, true, true, true, true, true, true, true, true, true, true, true, true, true, true, true, true, true, true, true, true, true, true, true, true, true, true, false, false, true, false, false, false]
abbrev AL39 : Array Bool := #[true, true, true, true, true, true, true, true, true, true, true, true, true, true, true, true, true, true, true, true, true, true, true, true, true, true, true, true, true, true, true, true, true, true, true, true, true, true, false, true, false, false, false]
abbrev AL40 : Array Bool := #[true, true, true, true, true, true, true, true, true, true, true, true, true, true, true, true, true, true, true, true, true, true, true, true, true, true, true, true, true, true, true, true, true, true, true, true, true, true, true, true, false, false, false]
abbrev AL41 : Array Bool := #[true, true, true, true, true, true, true, true, true, true, true, true, true, true, true, true, true, true, true, true, true, true, true, true, true, true, true, true, true, true, true, true, true, true, true, true, true, true, true, true, true, false, false]
abbrev AL42 : Array Bool := #[true, true, true, true, true, true, true, true, true, true, true, true, true, true, true, true, true, true, true, true, true, true, true, true, true, true, true, true, true, true, true, true, true, true, true, true, true, true, true, true, true, true, false]
abbrev AL43 : Array Bool := #[true, true, true, true, true, true, true, true, true, true, true, true, true, true, true, true, true, true, true, true, true, true, true, true, true, true, true, true, true, true, true, true, true, true, true, true, true, true, true, true, true, true, true]
set_option maxHeartbeats 8000000 in
set_option maxRecDepth 100000 in
theorem silhouettelaw06_RightParts.callsA (k : Nat) (A0 : Option Addr) (c0 : Nat) (l0 : List (S26)) (A1 : Option Addr) (c1 : Nat) (l1 : List (S26)) (a2_0 : Bool) (a2_1 : Bool) (a2_2 : Bool) (a3_0 : Bool) (a3_1 : Bool) (a3_2 : Bool) (r : Bool) (hr : r = true) (hs : (a2_0 && (a2_1 || a2_2)) = true) (w : World) (hr0 : Kd.C k26 w A0 l0.length l0) (hc0 : l0.length ≤ c0) (hr1 : Kd.C k26 w A1 l1.length l1) (hc1 : l1.length ≤ c1) (h : silhouettelaw06_RightParts.f k l0 l1 a2_0 a2_1 a2_2 a3_0 a3_1 a3_2 = some r) :
  Calls Try.prog 8 #[.slice A0 l0.length c0, .slice A1 l1.length c1, .agg #[.bool a2_0, .bool a2_1, .bool a2_2], .agg #[.bool a3_0, .bool a3_1, .bool a3_2]] w fun e w' => e = .returned (.bool r) ∧ Below w.heap.size w w' := by
 have hu26 := Try.underlying26
 have HR0 := Aside0.mk hr0
 have HC0 := Aside0.mk hc0
 clear hr0 hc0
 have HR1 := Aside0.mk hr1
 have HC1 := Aside0.mk hc1
 clear hr1 hc1
 have HB := Aside0.mk (Below.refl w.heap.size w)
 have H : ((silhouettelaw06_head.f k).bind fun t155 => (if (l0.length : Int) > 400 then (silhouettelaw06_RightParts.j0 k l0 l1 t155 true a2_0 a2_1 a2_2 a3_0 a3_1 a3_2) else (silhouettelaw06_RightParts.j0 k l0 l1 t155 (decide ((l1.length : Int) > 400)) a2_0 a2_1 a2_2 a3_0 a3_1 a3_2))) = some r := h
 clear h
 replace H := Option.bind_eq_some_iff.mp H
 obtain ⟨t155, A50, H⟩ := H
 replace H : (if (l0.length : Int) > 400 then (silhouettelaw06_RightParts.j0 k l0 l1 t155 true a2_0 a2_1 a2_2 a3_0 a3_1 a3_2) else (silhouettelaw06_RightParts.j0 k l0 l1 t155 (decide ((l1.length : Int) > 400)) a2_0 a2_1 a2_2 a3_0 a3_1 a3_2)) = some r := H
 have A5 := Aside0.mk A50
 clear A50
 have HC6 := Aside0.mk H
 clear H
 go_enter Try.func8, Try.ntmps8
 go_upto_region 2 with (first | ((with_reducible refine gate_dst (N := 6) rfl ?_); (try (refine gate_guard (by rfl) ?_; dsimp only)); refine box_event ?hg (N := 6) ?hd (cs := #[.bool a2_0, .bool a2_1, .bool a2_2]) (t := 26) ?hr ?_; (case hd => rfl); (case hg => rfl); (case hr => first | (go_simp; done) | (go_simp; rfl)); intro gb153 hg w7 hbox hb; have n0_ := Aside0.mk (below_step (by repeat (first | (with_reducible first | exact HB.out | apply below_alloc | apply pw_below_drewN | apply below_drew1) | exact HB.out)) hb); have n1_ := Aside0.mk (hbox); have n2_ := Aside0.mk ((by rw [hg]; exact (below_size (by repeat (first | (with_reducible first | exact HB.out | apply below_alloc | apply pw_below_drewN | apply below_drew1) | exact HB.out))) : w.heap.size ≤ gb153)); have n3_ := Aside0.mk ((by rw [hg]; exact (below_size (by repeat (first | (with_reducible first | exact HB.out | apply below_alloc | apply pw_below_drewN | apply below_drew1) | exact HB.out))) : w.heap.size ≤ gb153)); clear HB; have HB := n0_; have BK153 := n1_; have GW153 := n2_; have GE153 := n3_; clear n0_ n1_ n2_ n3_; clear hb hbox hg) | ((with_reducible refine gate_dst (N := 7) rfl ?_); (try (refine gate_guard (by rfl) ?_; dsimp only)); refine box_event ?hg (N := 7) ?hd (cs := #[.bool a3_0, .bool a3_1, .bool a3_2]) (t := 26) ?hr ?_; (case hd => rfl); (case hg => rfl); (case hr => first | (go_simp; done) | (go_simp; rfl)); intro gb154 hg w8 hbox hb; have n0_ := Aside0.mk (blk_below (g := gb153) (o := .cells #[.bool a2_0, .bool a2_1, .bool a2_2] 26 (0, 0)) BK153.out hb); have n1_ := Aside0.mk (below_step (by repeat (first | (with_reducible first | exact HB.out | apply below_alloc | apply pw_below_drewN | apply below_drew1 | refine below_set ?_ GE153.out) | exact HB.out)) hb); have n2_ := Aside0.mk (hbox); have n3_ := Aside0.mk ((by rw [hg]; exact (below_size (by repeat (first | (with_reducible first | exact HB.out | apply below_alloc | apply pw_below_drewN | apply below_drew1 | refine below_set ?_ GE153.out) | exact HB.out))) : w.heap.size ≤ gb154)); have n4_ := Aside0.mk ((by rw [hg]; exact (below_size (by repeat (first | (with_reducible first | exact HB.out | apply below_alloc | apply pw_below_drewN | apply below_drew1 | refine below_set ?_ GE153.out) | exact HB.out))) : w.heap.size ≤ gb154)); have n5_ := Aside0.mk ((by rw [hg]; exact Nat.ne_of_lt (blk_lt (g := gb153) (o := .cells #[.bool a2_0, .bool a2_1, .bool a2_2] 26 (0, 0)) (by (with_reducible repeat (first | refine blk_drewN ?_ _ | refine blk_drew ?_ | refine blk_alloc ?_ _)); exact BK153.out)) : gb153 ≠ gb154)); have n6_ := Aside0.mk ((by rw [hg]; exact Nat.ne_of_gt (blk_lt (g := gb153) (o := .cells #[.bool a2_0, .bool a2_1, .bool a2_2] 26 (0, 0)) (by (with_reducible repeat (first | refine blk_drewN ?_ _ | refine blk_drew ?_ | refine blk_alloc ?_ _)); exact BK153.out)) : gb154 ≠ gb153)); clear BK153; clear HB; have BK153 := n0_; have HB := n1_; have BK154 := n2_; have GW154 := n3_; have GE154 := n4_; have NB153_154 := n5_; have NB154_153 := n6_; clear n0_ n1_ n2_ n3_ n4_ n5_ n6_; clear hb hbox hg) | ((with_reducible refine gate_callee (f := 10) rfl ?_); refine goesL_ (some 12) rfl rfl Try.func10 (by kernel_rfl) rfl #[] rfl (by (try simp only [List.map_toArray, List.map_cons, List.map_nil]); first | done | rfl | (simp only [List.length_drop, List.length_take]; rfl)) ?_; (with_reducible refine (silhouettelaw06_head.calls k  t155 _ A5.out).mono ?_); rintro e w9 ⟨rfl, hb⟩; refine ⟨_, rfl, ?_⟩; have n0_ := Aside0.mk (blk_below (g := gb153) (o := .cells #[.bool a2_0, .bool a2_1, .bool a2_2] 26 (0, 0)) BK153.out hb); have n1_ := Aside0.mk (blk_below (g := gb154) (o := .cells #[.bool a3_0, .bool a3_1, .bool a3_2] 26 (0, 0)) BK154.out hb); have n2_ := Aside0.mk (below_step (by repeat (first | (with_reducible first | exact HB.out | apply below_alloc | apply pw_below_drewN | apply below_drew1 | refine below_set ?_ GE153.out | refine below_set ?_ GE154.out) | exact HB.out)) hb); clear BK153; clear BK154; clear HB; have BK153 := n0_; have BK154 := n1_; have HB := n2_; clear n0_ n1_ n2_; (try clear hb); (try clear hb2); (try clear hk); (try clear hi)))
 (try simp only [Act.put, List.setIfInBounds_toArray, List.set_cons_zero, List.set_cons_succ])
 go_cut [20] (fun v20 wc => ∃ (kq : Nat) (x20_5 : Bool), v20 = .bool x20_5 ∧ Aside0 (silhouettelaw06_RightParts.j0 kq l0 l1 t155 x20_5 a2_0 a2_1 a2_2 a3_0 a3_1 a3_2 = some r) ∧ Aside0 (kq ≤ k) ∧ Aside0 (wc.heap[gb153]? = some (.cells #[.bool a2_0, .bool a2_1, .bool a2_2] 26 (0, 0))) ∧ Aside0 (wc.heap[gb154]? = some (.cells #[.bool a3_0, .bool a3_1, .bool a3_2] 26 (0, 0))) ∧ Aside0 (Below w.heap.size w wc))
 case first =>
  have H := HC6.out
  clear HC6
  by_cases c10 : (l0.length : Int) > 400
  ·
   rw [if_pos c10] at H
   have c10b0 : decide (400 < (l0.length : Int)) = true := decide_eq_true c10
   have c10b1 : decide (400 < l0.length) = true := decide_eq_true (by omega)
   clear c10
   (first | rw [c10b0] | (simp only [i64_w, i32_w]; rw [c10b0]) | skip)
   have H' := Aside0.mk H
   clear H
   go_wp2
   go_meet
   case rel => exact ⟨_, (true), (by first | rfl | (simp; done) | (simp [*]; done)), H', ⟨by first | omega | exact Nat.le_refl _⟩, ⟨by (with_reducible repeat (first | refine blk_drewN ?_ _ | refine blk_drew ?_ | refine blk_alloc ?_ _)); exact BK153.out⟩, ⟨by (with_reducible repeat (first | refine blk_drewN ?_ _ | refine blk_drew ?_ | refine blk_alloc ?_ _)); exact BK154.out⟩, ⟨by repeat (first | (with_reducible first | exact HB.out | apply below_alloc | apply pw_below_drewN | apply below_drew1 | refine below_set ?_ GE153.out | refine below_set ?_ GE154.out) | exact HB.out)⟩⟩
  ·
   rw [if_neg c10] at H
   have c10b0 : decide (400 < (l0.length : Int)) = false := decide_eq_false c10
   have c10b1 : decide (400 < l0.length) = false := decide_eq_false (by omega)
   clear c10
   (first | rw [c10b0] | (simp only [i64_w, i32_w]; rw [c10b0]) | skip)
   have H' := Aside0.mk H
   clear H
   go_wp2
   go_meet
   case rel => exact ⟨_, (decide ((l1.length : Int) > 400)), (by first | rfl | (simp; done) | (simp [*]; done)), H', ⟨by first | omega | exact Nat.le_refl _⟩, ⟨by (with_reducible repeat (first | refine blk_drewN ?_ _ | refine blk_drew ?_ | refine blk_alloc ?_ _)); exact BK153.out⟩, ⟨by (with_reducible repeat (first | refine blk_drewN ?_ _ | refine blk_drew ?_ | refine blk_alloc ?_ _)); exact BK154.out⟩, ⟨by repeat (first | (with_reducible first | exact HB.out | apply below_alloc | apply pw_below_drewN | apply below_drew1 | refine below_set ?_ GE153.out | refine below_set ?_ GE154.out) | exact HB.out)⟩⟩
 case rest =>
  clear HC6
  try clear c1
  try clear p2
  try clear c8
  try clear c10
  try clear c10b0
  try clear c10b1
  obtain ⟨kq, x20_5, rfl, HA, HJ5, BK153, BK154, HB⟩ := hcut
  cases kq with
  | zero => exact absurd HA.out (by simp [silhouettelaw06_RightParts.j0])
  | succ kj5 =>
   have H := HA.out
   clear HA
   simp only [silhouettelaw06_RightParts.j0] at H
   by_cases c11 : x20_5 = true
   ·
    subst c11
    have H1 : (some t155) = some r := by rw [if_pos rfl] at H; exact H
    clear H
    have H := H1
    clear H1
    obtain rfl := Option.some.inj H
    go_wp2
    go_ret
    exact ⟨by first | rfl | (simp [errW_none, errW_some] <;> rfl) | (simp [*, errW_none, errW_some] <;> rfl), by repeat (first | (with_reducible first | exact HB.out | apply below_alloc | apply pw_below_drewN | apply below_drew1 | refine below_set ?_ GE153.out | refine below_set ?_ GE154.out) | exact HB.out)⟩
   ·
    replace c11 := Bool.eq_false_iff.mpr c11
    subst c11
    have H1 : ((some (([] : List (S26)) : List (S26))).bind fun y156 => (if y156.length + l0.length < 46912496118442 then ((some (y156 ++ l0 : List (S26))).bind fun y159 => (if y159.length + l1.length < 46912496118442 then ((right_Meet.f kj5 (([(⟨a2_0, a2_1, a2_2⟩ : S26), (⟨a3_0, a3_1, a3_2⟩ : S26)] : List (S26)))).bind fun bt168 => (if t155 = true then ((right_Meet.f kj5 (y159 ++ l1)).bind fun bt172 => ((right_Meet.f kj5 l0).bind fun bt175 => ((right_Meet.f kj5 l1).bind fun bt178 => ((right_Meet.f kj5 (([(⟨bt175.1, bt175.2.1, bt175.2.2⟩ : S26), (⟨bt178.1, bt178.2.1, bt178.2.2⟩ : S26)] : List (S26)))).bind fun bt184 => (if (bt172.1 == bt184.1 && (bt172.2.1 == bt184.2.1 && (bt172.2.2 == bt184.2.2))) = true then (if a2_0 = true then (if a2_1 = true then (if a2_2 = true then (if (bt168.1 == a3_0 && (bt168.2.1 == a3_1 && (bt168.2.2 == a3_2))) = true then ((right_Meet.f kj5 (([(⟨a2_0, a2_1, a2_2⟩ : S26)] : List (S26)))).bind fun bt190 => (some (bt190.1 == a2_0 && (bt190.2.1 == a2_1 && (bt190.2.2 == a2_2))))) else (some false)) else (if (bt168.1 == a3_0 && (bt168.2.1 == a3_1 && (!bt168.2.2))) = true then ((right_Meet.f kj5 (([(⟨a2_0, a2_1, a2_2⟩ : S26)] : List (S26)))).bind fun bt196 => (some (bt196.1 == a2_0 && (bt196.2.1 == a2_1 && (bt196.2.2 == a2_2))))) else (some false))) else (if a2_2 = true then (if (bt168.1 == a3_0 && (!bt168.2.1 && (bt168.2.2 == a3_2))) = true then ((right_Meet.f kj5 (([(⟨a2_0, a2_1, a2_2⟩ : S26)] : List (S26)))).bind fun bt202 => (some (bt202.1 == a2_0 && (bt202.2.1 == a2_1 && (bt202.2.2 == a2_2))))) else (some false)) else (if (bt168.1 == a3_0 && (!bt168.2.1 && (!bt168.2.2))) = true then ((right_Meet.f kj5 (([(⟨a2_0, a2_1, a2_2⟩ : S26)] : List (S26)))).bind fun bt208 => (some (bt208.1 == a2_0 && (bt208.2.1 == a2_1 && (bt208.2.2 == a2_2))))) else (some false)))) else (if a2_1 = true then (if a2_2 = true then (if (!bt168.1 && (bt168.2.1 == a3_1 && (bt168.2.2 == a3_2))) = true then ((right_Meet.f kj5 (([(⟨a2_0, a2_1, a2_2⟩ : S26)] : List (S26)))).bind fun bt214 => (some (bt214.1 == a2_0 && (bt214.2.1 == a2_1 && (bt214.2.2 == a2_2))))) else (some false)) else (if (!bt168.1 && (bt168.2.1 == a3_1 && (!bt168.2.2))) = true then ((right_Meet.f kj5 (([(⟨a2_0, a2_1, a2_2⟩ : S26)] : List (S26)))).bind fun bt220 => (some (bt220.1 == a2_0 && (bt220.2.1 == a2_1 && (bt220.2.2 == a2_2))))) else (some false))) else (if a2_2 = true then (if (!bt168.1 && (!bt168.2.1 && (bt168.2.2 == a3_2))) = true then ((right_Meet.f kj5 (([(⟨a2_0, a2_1, a2_2⟩ : S26)] : List (S26)))).bind fun bt226 => (some (bt226.1 == a2_0 && (bt226.2.1 == a2_1 && (bt226.2.2 == a2_2))))) else (some false)) else (if (!bt168.1 && (!bt168.2.1 && (!bt168.2.2))) = true then ((right_Meet.f kj5 (([(⟨a2_0, a2_1, a2_2⟩ : S26)] : List (S26)))).bind fun bt232 => (some (bt232.1 == a2_0 && (bt232.2.1 == a2_1 && (bt232.2.2 == a2_2))))) else (some false))))) else (some false)))))) else (some false))) else (none))) else (none))) = some r := by rw [if_neg (show ¬ (false = true) by decide)] at H; exact H
    clear H
    have H := H1
    clear H1
    obtain ⟨y156, hy156⟩ : ∃ y_ : List (S26), y_ = (([] : List (S26))) := ⟨_, rfl⟩
    replace H : (if y156.length + l0.length < 46912496118442 then ((some (y156 ++ l0 : List (S26))).bind fun y159 => (if y159.length + l1.length < 46912496118442 then ((right_Meet.f kj5 (([(⟨a2_0, a2_1, a2_2⟩ : S26), (⟨a3_0, a3_1, a3_2⟩ : S26)] : List (S26)))).bind fun bt168 => (if t155 = true then ((right_Meet.f kj5 (y159 ++ l1)).bind fun bt172 => ((right_Meet.f kj5 l0).bind fun bt175 => ((right_Meet.f kj5 l1).bind fun bt178 => ((right_Meet.f kj5 (([(⟨bt175.1, bt175.2.1, bt175.2.2⟩ : S26), (⟨bt178.1, bt178.2.1, bt178.2.2⟩ : S26)] : List (S26)))).bind fun bt184 => (if (bt172.1 == bt184.1 && (bt172.2.1 == bt184.2.1 && (bt172.2.2 == bt184.2.2))) = true then (if a2_0 = true then (if a2_1 = true then (if a2_2 = true then (if (bt168.1 == a3_0 && (bt168.2.1 == a3_1 && (bt168.2.2 == a3_2))) = true then ((right_Meet.f kj5 (([(⟨a2_0, a2_1, a2_2⟩ : S26)] : List (S26)))).bind fun bt190 => (some (bt190.1 == a2_0 && (bt190.2.1 == a2_1 && (bt190.2.2 == a2_2))))) else (some false)) else (if (bt168.1 == a3_0 && (bt168.2.1 == a3_1 && (!bt168.2.2))) = true then ((right_Meet.f kj5 (([(⟨a2_0, a2_1, a2_2⟩ : S26)] : List (S26)))).bind fun bt196 => (some (bt196.1 == a2_0 && (bt196.2.1 == a2_1 && (bt196.2.2 == a2_2))))) else (some false))) else (if a2_2 = true then (if (bt168.1 == a3_0 && (!bt168.2.1 && (bt168.2.2 == a3_2))) = true then ((right_Meet.f kj5 (([(⟨a2_0, a2_1, a2_2⟩ : S26)] : List (S26)))).bind fun bt202 => (some (bt202.1 == a2_0 && (bt202.2.1 == a2_1 && (bt202.2.2 == a2_2))))) else (some false)) else (if (bt168.1 == a3_0 && (!bt168.2.1 && (!bt168.2.2))) = true then ((right_Meet.f kj5 (([(⟨a2_0, a2_1, a2_2⟩ : S26)] : List (S26)))).bind fun bt208 => (some (bt208.1 == a2_0 && (bt208.2.1 == a2_1 && (bt208.2.2 == a2_2))))) else (some false)))) else (if a2_1 = true then (if a2_2 = true then (if (!bt168.1 && (bt168.2.1 == a3_1 && (bt168.2.2 == a3_2))) = true then ((right_Meet.f kj5 (([(⟨a2_0, a2_1, a2_2⟩ : S26)] : List (S26)))).bind fun bt214 => (some (bt214.1 == a2_0 && (bt214.2.1 == a2_1 && (bt214.2.2 == a2_2))))) else (some false)) else (if (!bt168.1 && (bt168.2.1 == a3_1 && (!bt168.2.2))) = true then ((right_Meet.f kj5 (([(⟨a2_0, a2_1, a2_2⟩ : S26)] : List (S26)))).bind fun bt220 => (some (bt220.1 == a2_0 && (bt220.2.1 == a2_1 && (bt220.2.2 == a2_2))))) else (some false))) else (if a2_2 = true then (if (!bt168.1 && (!bt168.2.1 && (bt168.2.2 == a3_2))) = true then ((right_Meet.f kj5 (([(⟨a2_0, a2_1, a2_2⟩ : S26)] : List (S26)))).bind fun bt226 => (some (bt226.1 == a2_0 && (bt226.2.1 == a2_1 && (bt226.2.2 == a2_2))))) else (some false)) else (if (!bt168.1 && (!bt168.2.1 && (!bt168.2.2))) = true then ((right_Meet.f kj5 (([(⟨a2_0, a2_1, a2_2⟩ : S26)] : List (S26)))).bind fun bt232 => (some (bt232.1 == a2_0 && (bt232.2.1 == a2_1 && (bt232.2.2 == a2_2))))) else (some false))))) else (some false)))))) else (some false))) else (none))) else (none)) = some r := by first | (rw [hy156]; with_reducible exact H) | (have H2_ := (Option.bind_some _ _).symm.trans H; rw [hy156]; with_reducible exact H2_) | (have H2_ := (Option.bind_some _ _).symm.trans H; with_reducible exact H2_) | with_reducible exact H | (rw [hy156]; exact H) | exact H
    have Ny156 := Aside0.mk hy156
    clear hy156
    by_cases c12 : y156.length + l0.length < 46912496118442
    ·
     rw [if_pos c12] at H
     have LMc12 := Aside0.mk c12
     clear c12
     obtain ⟨y159, hy159⟩ : ∃ y_ : List (S26), y_ = (y156 ++ l0) := ⟨_, rfl⟩
     replace H : (if y159.length + l1.length < 46912496118442 then ((right_Meet.f kj5 (([(⟨a2_0, a2_1, a2_2⟩ : S26), (⟨a3_0, a3_1, a3_2⟩ : S26)] : List (S26)))).bind fun bt168 => (if t155 = true then ((right_Meet.f kj5 (y159 ++ l1)).bind fun bt172 => ((right_Meet.f kj5 l0).bind fun bt175 => ((right_Meet.f kj5 l1).bind fun bt178 => ((right_Meet.f kj5 (([(⟨bt175.1, bt175.2.1, bt175.2.2⟩ : S26), (⟨bt178.1, bt178.2.1, bt178.2.2⟩ : S26)] : List (S26)))).bind fun bt184 => (if (bt172.1 == bt184.1 && (bt172.2.1 == bt184.2.1 && (bt172.2.2 == bt184.2.2))) = true then (if a2_0 = true then (if a2_1 = true then (if a2_2 = true then (if (bt168.1 == a3_0 && (bt168.2.1 == a3_1 && (bt168.2.2 == a3_2))) = true then ((right_Meet.f kj5 (([(⟨a2_0, a2_1, a2_2⟩ : S26)] : List (S26)))).bind fun bt190 => (some (bt190.1 == a2_0 && (bt190.2.1 == a2_1 && (bt190.2.2 == a2_2))))) else (some false)) else (if (bt168.1 == a3_0 && (bt168.2.1 == a3_1 && (!bt168.2.2))) = true then ((right_Meet.f kj5 (([(⟨a2_0, a2_1, a2_2⟩ : S26)] : List (S26)))).bind fun bt196 => (some (bt196.1 == a2_0 && (bt196.2.1 == a2_1 && (bt196.2.2 == a2_2))))) else (some false))) else (if a2_2 = true then (if (bt168.1 == a3_0 && (!bt168.2.1 && (bt168.2.2 == a3_2))) = true then ((right_Meet.f kj5 (([(⟨a2_0, a2_1, a2_2⟩ : S26)] : List (S26)))).bind fun bt202 => (some (bt202.1 == a2_0 && (bt202.2.1 == a2_1 && (bt202.2.2 == a2_2))))) else (some false)) else (if (bt168.1 == a3_0 && (!bt168.2.1 && (!bt168.2.2))) = true then ((right_Meet.f kj5 (([(⟨a2_0, a2_1, a2_2⟩ : S26)] : List (S26)))).bind fun bt208 => (some (bt208.1 == a2_0 && (bt208.2.1 == a2_1 && (bt208.2.2 == a2_2))))) else (some false)))) else (if a2_1 = true then (if a2_2 = true then (if (!bt168.1 && (bt168.2.1 == a3_1 && (bt168.2.2 == a3_2))) = true then ((right_Meet.f kj5 (([(⟨a2_0, a2_1, a2_2⟩ : S26)] : List (S26)))).bind fun bt214 => (some (bt214.1 == a2_0 && (bt214.2.1 == a2_1 && (bt214.2.2 == a2_2))))) else (some false)) else (if (!bt168.1 && (bt168.2.1 == a3_1 && (!bt168.2.2))) = true then ((right_Meet.f kj5 (([(⟨a2_0, a2_1, a2_2⟩ : S26)] : List (S26)))).bind fun bt220 => (some (bt220.1 == a2_0 && (bt220.2.1 == a2_1 && (bt220.2.2 == a2_2))))) else (some false))) else (if a2_2 = true then (if (!bt168.1 && (!bt168.2.1 && (bt168.2.2 == a3_2))) = true then ((right_Meet.f kj5 (([(⟨a2_0, a2_1, a2_2⟩ : S26)] : List (S26)))).bind fun bt226 => (some (bt226.1 == a2_0 && (bt226.2.1 == a2_1 && (bt226.2.2 == a2_2))))) else (some false)) else (if (!bt168.1 && (!bt168.2.1 && (!bt168.2.2))) = true then ((right_Meet.f kj5 (([(⟨a2_0, a2_1, a2_2⟩ : S26)] : List (S26)))).bind fun bt232 => (some (bt232.1 == a2_0 && (bt232.2.1 == a2_1 && (bt232.2.2 == a2_2))))) else (some false))))) else (some false)))))) else (some false))) else (none)) = some r := by first | (rw [hy159]; with_reducible exact H) | (have H2_ := (Option.bind_some _ _).symm.trans H; rw [hy159]; with_reducible exact H2_) | (have H2_ := (Option.bind_some _ _).symm.trans H; with_reducible exact H2_) | with_reducible exact H | (rw [hy159]; exact H) | exact H
     have Ny159 := Aside0.mk hy159
     clear hy159
     by_cases c13 : y159.length + l1.length < 46912496118442
     ·
      rw [if_pos c13] at H
      have LMc13 := Aside0.mk c13
      clear c13
      obtain ⟨y162, hy162⟩ : ∃ y_ : List (S26), y_ = (y159 ++ l1) := ⟨_, rfl⟩
      replace H : ((right_Meet.f kj5 (([(⟨a2_0, a2_1, a2_2⟩ : S26), (⟨a3_0, a3_1, a3_2⟩ : S26)] : List (S26)))).bind fun bt168 => (if t155 = true then ((right_Meet.f kj5 y162).bind fun bt172 => ((right_Meet.f kj5 l0).bind fun bt175 => ((right_Meet.f kj5 l1).bind fun bt178 => ((right_Meet.f kj5 (([(⟨bt175.1, bt175.2.1, bt175.2.2⟩ : S26), (⟨bt178.1, bt178.2.1, bt178.2.2⟩ : S26)] : List (S26)))).bind fun bt184 => (if (bt172.1 == bt184.1 && (bt172.2.1 == bt184.2.1 && (bt172.2.2 == bt184.2.2))) = true then (if a2_0 = true then (if a2_1 = true then (if a2_2 = true then (if (bt168.1 == a3_0 && (bt168.2.1 == a3_1 && (bt168.2.2 == a3_2))) = true then ((right_Meet.f kj5 (([(⟨a2_0, a2_1, a2_2⟩ : S26)] : List (S26)))).bind fun bt190 => (some (bt190.1 == a2_0 && (bt190.2.1 == a2_1 && (bt190.2.2 == a2_2))))) else (some false)) else (if (bt168.1 == a3_0 && (bt168.2.1 == a3_1 && (!bt168.2.2))) = true then ((right_Meet.f kj5 (([(⟨a2_0, a2_1, a2_2⟩ : S26)] : List (S26)))).bind fun bt196 => (some (bt196.1 == a2_0 && (bt196.2.1 == a2_1 && (bt196.2.2 == a2_2))))) else (some false))) else (if a2_2 = true then (if (bt168.1 == a3_0 && (!bt168.2.1 && (bt168.2.2 == a3_2))) = true then ((right_Meet.f kj5 (([(⟨a2_0, a2_1, a2_2⟩ : S26)] : List (S26)))).bind fun bt202 => (some (bt202.1 == a2_0 && (bt202.2.1 == a2_1 && (bt202.2.2 == a2_2))))) else (some false)) else (if (bt168.1 == a3_0 && (!bt168.2.1 && (!bt168.2.2))) = true then ((right_Meet.f kj5 (([(⟨a2_0, a2_1, a2_2⟩ : S26)] : List (S26)))).bind fun bt208 => (some (bt208.1 == a2_0 && (bt208.2.1 == a2_1 && (bt208.2.2 == a2_2))))) else (some false)))) else (if a2_1 = true then (if a2_2 = true then (if (!bt168.1 && (bt168.2.1 == a3_1 && (bt168.2.2 == a3_2))) = true then ((right_Meet.f kj5 (([(⟨a2_0, a2_1, a2_2⟩ : S26)] : List (S26)))).bind fun bt214 => (some (bt214.1 == a2_0 && (bt214.2.1 == a2_1 && (bt214.2.2 == a2_2))))) else (some false)) else (if (!bt168.1 && (bt168.2.1 == a3_1 && (!bt168.2.2))) = true then ((right_Meet.f kj5 (([(⟨a2_0, a2_1, a2_2⟩ : S26)] : List (S26)))).bind fun bt220 => (some (bt220.1 == a2_0 && (bt220.2.1 == a2_1 && (bt220.2.2 == a2_2))))) else (some false))) else (if a2_2 = true then (if (!bt168.1 && (!bt168.2.1 && (bt168.2.2 == a3_2))) = true then ((right_Meet.f kj5 (([(⟨a2_0, a2_1, a2_2⟩ : S26)] : List (S26)))).bind fun bt226 => (some (bt226.1 == a2_0 && (bt226.2.1 == a2_1 && (bt226.2.2 == a2_2))))) else (some false)) else (if (!bt168.1 && (!bt168.2.1 && (!bt168.2.2))) = true then ((right_Meet.f kj5 (([(⟨a2_0, a2_1, a2_2⟩ : S26)] : List (S26)))).bind fun bt232 => (some (bt232.1 == a2_0 && (bt232.2.1 == a2_1 && (bt232.2.2 == a2_2))))) else (some false))))) else (some false)))))) else (some false))) = some r := by first | (rw [hy162]; with_reducible exact H) | (have H2_ := (Option.bind_some _ _).symm.trans H; rw [hy162]; with_reducible exact H2_) | (have H2_ := (Option.bind_some _ _).symm.trans H; with_reducible exact H2_) | with_reducible exact H | (rw [hy162]; exact H) | exact H
      have Ny162 := Aside0.mk hy162
      clear hy162
      obtain ⟨y165, hy165⟩ : ∃ y_ : List (S26), y_ = (([(⟨a2_0, a2_1, a2_2⟩ : S26), (⟨a3_0, a3_1, a3_2⟩ : S26)] : List (S26))) := ⟨_, rfl⟩
      replace H : ((right_Meet.f kj5 y165).bind fun bt168 => (if t155 = true then ((right_Meet.f kj5 y162).bind fun bt172 => ((right_Meet.f kj5 l0).bind fun bt175 => ((right_Meet.f kj5 l1).bind fun bt178 => ((right_Meet.f kj5 (([(⟨bt175.1, bt175.2.1, bt175.2.2⟩ : S26), (⟨bt178.1, bt178.2.1, bt178.2.2⟩ : S26)] : List (S26)))).bind fun bt184 => (if (bt172.1 == bt184.1 && (bt172.2.1 == bt184.2.1 && (bt172.2.2 == bt184.2.2))) = true then (if a2_0 = true then (if a2_1 = true then (if a2_2 = true then (if (bt168.1 == a3_0 && (bt168.2.1 == a3_1 && (bt168.2.2 == a3_2))) = true then ((right_Meet.f kj5 (([(⟨a2_0, a2_1, a2_2⟩ : S26)] : List (S26)))).bind fun bt190 => (some (bt190.1 == a2_0 && (bt190.2.1 == a2_1 && (bt190.2.2 == a2_2))))) else (some false)) else (if (bt168.1 == a3_0 && (bt168.2.1 == a3_1 && (!bt168.2.2))) = true then ((right_Meet.f kj5 (([(⟨a2_0, a2_1, a2_2⟩ : S26)] : List (S26)))).bind fun bt196 => (some (bt196.1 == a2_0 && (bt196.2.1 == a2_1 && (bt196.2.2 == a2_2))))) else (some false))) else (if a2_2 = true then (if (bt168.1 == a3_0 && (!bt168.2.1 && (bt168.2.2 == a3_2))) = true then ((right_Meet.f kj5 (([(⟨a2_0, a2_1, a2_2⟩ : S26)] : List (S26)))).bind fun bt202 => (some (bt202.1 == a2_0 && (bt202.2.1 == a2_1 && (bt202.2.2 == a2_2))))) else (some false)) else (if (bt168.1 == a3_0 && (!bt168.2.1 && (!bt168.2.2))) = true then ((right_Meet.f kj5 (([(⟨a2_0, a2_1, a2_2⟩ : S26)] : List (S26)))).bind fun bt208 => (some (bt208.1 == a2_0 && (bt208.2.1 == a2_1 && (bt208.2.2 == a2_2))))) else (some false)))) else (if a2_1 = true then (if a2_2 = true then (if (!bt168.1 && (bt168.2.1 == a3_1 && (bt168.2.2 == a3_2))) = true then ((right_Meet.f kj5 (([(⟨a2_0, a2_1, a2_2⟩ : S26)] : List (S26)))).bind fun bt214 => (some (bt214.1 == a2_0 && (bt214.2.1 == a2_1 && (bt214.2.2 == a2_2))))) else (some false)) else (if (!bt168.1 && (bt168.2.1 == a3_1 && (!bt168.2.2))) = true then ((right_Meet.f kj5 (([(⟨a2_0, a2_1, a2_2⟩ : S26)] : List (S26)))).bind fun bt220 => (some (bt220.1 == a2_0 && (bt220.2.1 == a2_1 && (bt220.2.2 == a2_2))))) else (some false))) else (if a2_2 = true then (if (!bt168.1 && (!bt168.2.1 && (bt168.2.2 == a3_2))) = true then ((right_Meet.f kj5 (([(⟨a2_0, a2_1, a2_2⟩ : S26)] : List (S26)))).bind fun bt226 => (some (bt226.1 == a2_0 && (bt226.2.1 == a2_1 && (bt226.2.2 == a2_2))))) else (some false)) else (if (!bt168.1 && (!bt168.2.1 && (!bt168.2.2))) = true then ((right_Meet.f kj5 (([(⟨a2_0, a2_1, a2_2⟩ : S26)] : List (S26)))).bind fun bt232 => (some (bt232.1 == a2_0 && (bt232.2.1 == a2_1 && (bt232.2.2 == a2_2))))) else (some false))))) else (some false)))))) else (some false))) = some r := by first | (rw [hy165]; with_reducible exact H) | (have H2_ := (Option.bind_some _ _).symm.trans H; rw [hy165]; with_reducible exact H2_) | (have H2_ := (Option.bind_some _ _).symm.trans H; with_reducible exact H2_) | with_reducible exact H | (rw [hy165]; exact H) | exact H
      have Ny165 := Aside0.mk hy165
      clear hy165
      replace H := Option.bind_eq_some_iff.mp H
      obtain ⟨⟨t168, t169, t170⟩, A140, H⟩ := H
      replace H : (if t155 = true then ((right_Meet.f kj5 y162).bind fun bt172 => ((right_Meet.f kj5 l0).bind fun bt175 => ((right_Meet.f kj5 l1).bind fun bt178 => ((right_Meet.f kj5 (([(⟨bt175.1, bt175.2.1, bt175.2.2⟩ : S26), (⟨bt178.1, bt178.2.1, bt178.2.2⟩ : S26)] : List (S26)))).bind fun bt184 => (if (bt172.1 == bt184.1 && (bt172.2.1 == bt184.2.1 && (bt172.2.2 == bt184.2.2))) = true then (if a2_0 = true then (if a2_1 = true then (if a2_2 = true then (if (t168 == a3_0 && (t169 == a3_1 && (t170 == a3_2))) = true then ((right_Meet.f kj5 (([(⟨a2_0, a2_1, a2_2⟩ : S26)] : List (S26)))).bind fun bt190 => (some (bt190.1 == a2_0 && (bt190.2.1 == a2_1 && (bt190.2.2 == a2_2))))) else (some false)) else (if (t168 == a3_0 && (t169 == a3_1 && (!t170))) = true then ((right_Meet.f kj5 (([(⟨a2_0, a2_1, a2_2⟩ : S26)] : List (S26)))).bind fun bt196 => (some (bt196.1 == a2_0 && (bt196.2.1 == a2_1 && (bt196.2.2 == a2_2))))) else (some false))) else (if a2_2 = true then (if (t168 == a3_0 && (!t169 && (t170 == a3_2))) = true then ((right_Meet.f kj5 (([(⟨a2_0, a2_1, a2_2⟩ : S26)] : List (S26)))).bind fun bt202 => (some (bt202.1 == a2_0 && (bt202.2.1 == a2_1 && (bt202.2.2 == a2_2))))) else (some false)) else (if (t168 == a3_0 && (!t169 && (!t170))) = true then ((right_Meet.f kj5 (([(⟨a2_0, a2_1, a2_2⟩ : S26)] : List (S26)))).bind fun bt208 => (some (bt208.1 == a2_0 && (bt208.2.1 == a2_1 && (bt208.2.2 == a2_2))))) else (some false)))) else (if a2_1 = true then (if a2_2 = true then (if (!t168 && (t169 == a3_1 && (t170 == a3_2))) = true then ((right_Meet.f kj5 (([(⟨a2_0, a2_1, a2_2⟩ : S26)] : List (S26)))).bind fun bt214 => (some (bt214.1 == a2_0 && (bt214.2.1 == a2_1 && (bt214.2.2 == a2_2))))) else (some false)) else (if (!t168 && (t169 == a3_1 && (!t170))) = true then ((right_Meet.f kj5 (([(⟨a2_0, a2_1, a2_2⟩ : S26)] : List (S26)))).bind fun bt220 => (some (bt220.1 == a2_0 && (bt220.2.1 == a2_1 && (bt220.2.2 == a2_2))))) else (some false))) else (if a2_2 = true then (if (!t168 && (!t169 && (t170 == a3_2))) = true then ((right_Meet.f kj5 (([(⟨a2_0, a2_1, a2_2⟩ : S26)] : List (S26)))).bind fun bt226 => (some (bt226.1 == a2_0 && (bt226.2.1 == a2_1 && (bt226.2.2 == a2_2))))) else (some false)) else (if (!t168 && (!t169 && (!t170))) = true then ((right_Meet.f kj5 (([(⟨a2_0, a2_1, a2_2⟩ : S26)] : List (S26)))).bind fun bt232 => (some (bt232.1 == a2_0 && (bt232.2.1 == a2_1 && (bt232.2.2 == a2_2))))) else (some false))))) else (some false)))))) else (some false)) = some r := H
      have A14 := Aside0.mk A140
      clear A140
      by_cases c15 : t155 = true
      ·
       subst c15
       have H1 : ((right_Meet.f kj5 y162).bind fun bt172 => ((right_Meet.f kj5 l0).bind fun bt175 => ((right_Meet.f kj5 l1).bind fun bt178 => ((right_Meet.f kj5 (([(⟨bt175.1, bt175.2.1, bt175.2.2⟩ : S26), (⟨bt178.1, bt178.2.1, bt178.2.2⟩ : S26)] : List (S26)))).bind fun bt184 => (if (bt172.1 == bt184.1 && (bt172.2.1 == bt184.2.1 && (bt172.2.2 == bt184.2.2))) = true then (if a2_0 = true then (if a2_1 = true then (if a2_2 = true then (if (t168 == a3_0 && (t169 == a3_1 && (t170 == a3_2))) = true then ((right_Meet.f kj5 (([(⟨a2_0, a2_1, a2_2⟩ : S26)] : List (S26)))).bind fun bt190 => (some (bt190.1 == a2_0 && (bt190.2.1 == a2_1 && (bt190.2.2 == a2_2))))) else (some false)) else (if (t168 == a3_0 && (t169 == a3_1 && (!t170))) = true then ((right_Meet.f kj5 (([(⟨a2_0, a2_1, a2_2⟩ : S26)] : List (S26)))).bind fun bt196 => (some (bt196.1 == a2_0 && (bt196.2.1 == a2_1 && (bt196.2.2 == a2_2))))) else (some false))) else (if a2_2 = true then (if (t168 == a3_0 && (!t169 && (t170 == a3_2))) = true then ((right_Meet.f kj5 (([(⟨a2_0, a2_1, a2_2⟩ : S26)] : List (S26)))).bind fun bt202 => (some (bt202.1 == a2_0 && (bt202.2.1 == a2_1 && (bt202.2.2 == a2_2))))) else (some false)) else (if (t168 == a3_0 && (!t169 && (!t170))) = true then ((right_Meet.f kj5 (([(⟨a2_0, a2_1, a2_2⟩ : S26)] : List (S26)))).bind fun bt208 => (some (bt208.1 == a2_0 && (bt208.2.1 == a2_1 && (bt208.2.2 == a2_2))))) else (some false)))) else (if a2_1 = true then (if a2_2 = true then (if (!t168 && (t169 == a3_1 && (t170 == a3_2))) = true then ((right_Meet.f kj5 (([(⟨a2_0, a2_1, a2_2⟩ : S26)] : List (S26)))).bind fun bt214 => (some (bt214.1 == a2_0 && (bt214.2.1 == a2_1 && (bt214.2.2 == a2_2))))) else (some false)) else (if (!t168 && (t169 == a3_1 && (!t170))) = true then ((right_Meet.f kj5 (([(⟨a2_0, a2_1, a2_2⟩ : S26)] : List (S26)))).bind fun bt220 => (some (bt220.1 == a2_0 && (bt220.2.1 == a2_1 && (bt220.2.2 == a2_2))))) else (some false))) else (if a2_2 = true then (if (!t168 && (!t169 && (t170 == a3_2))) = true then ((right_Meet.f kj5 (([(⟨a2_0, a2_1, a2_2⟩ : S26)] : List (S26)))).bind fun bt226 => (some (bt226.1 == a2_0 && (bt226.2.1 == a2_1 && (bt226.2.2 == a2_2))))) else (some false)) else (if (!t168 && (!t169 && (!t170))) = true then ((right_Meet.f kj5 (([(⟨a2_0, a2_1, a2_2⟩ : S26)] : List (S26)))).bind fun bt232 => (some (bt232.1 == a2_0 && (bt232.2.1 == a2_1 && (bt232.2.2 == a2_2))))) else (some false))))) else (some false)))))) = some r := by rw [if_pos rfl] at H; exact H
       clear H
       have H := H1
       clear H1
       replace H := Option.bind_eq_some_iff.mp H
       obtain ⟨⟨t172, t173, t174⟩, A160, H⟩ := H
       replace H : ((right_Meet.f kj5 l0).bind fun bt175 => ((right_Meet.f kj5 l1).bind fun bt178 => ((right_Meet.f kj5 (([(⟨bt175.1, bt175.2.1, bt175.2.2⟩ : S26), (⟨bt178.1, bt178.2.1, bt178.2.2⟩ : S26)] : List (S26)))).bind fun bt184 => (if (t172 == bt184.1 && (t173 == bt184.2.1 && (t174 == bt184.2.2))) = true then (if a2_0 = true then (if a2_1 = true then (if a2_2 = true then (if (t168 == a3_0 && (t169 == a3_1 && (t170 == a3_2))) = true then ((right_Meet.f kj5 (([(⟨a2_0, a2_1, a2_2⟩ : S26)] : List (S26)))).bind fun bt190 => (some (bt190.1 == a2_0 && (bt190.2.1 == a2_1 && (bt190.2.2 == a2_2))))) else (some false)) else (if (t168 == a3_0 && (t169 == a3_1 && (!t170))) = true then ((right_Meet.f kj5 (([(⟨a2_0, a2_1, a2_2⟩ : S26)] : List (S26)))).bind fun bt196 => (some (bt196.1 == a2_0 && (bt196.2.1 == a2_1 && (bt196.2.2 == a2_2))))) else (some false))) else (if a2_2 = true then (if (t168 == a3_0 && (!t169 && (t170 == a3_2))) = true then ((right_Meet.f kj5 (([(⟨a2_0, a2_1, a2_2⟩ : S26)] : List (S26)))).bind fun bt202 => (some (bt202.1 == a2_0 && (bt202.2.1 == a2_1 && (bt202.2.2 == a2_2))))) else (some false)) else (if (t168 == a3_0 && (!t169 && (!t170))) = true then ((right_Meet.f kj5 (([(⟨a2_0, a2_1, a2_2⟩ : S26)] : List (S26)))).bind fun bt208 => (some (bt208.1 == a2_0 && (bt208.2.1 == a2_1 && (bt208.2.2 == a2_2))))) else (some false)))) else (if a2_1 = true then (if a2_2 = true then (if (!t168 && (t169 == a3_1 && (t170 == a3_2))) = true then ((right_Meet.f kj5 (([(⟨a2_0, a2_1, a2_2⟩ : S26)] : List (S26)))).bind fun bt214 => (some (bt214.1 == a2_0 && (bt214.2.1 == a2_1 && (bt214.2.2 == a2_2))))) else (some false)) else (if (!t168 && (t169 == a3_1 && (!t170))) = true then ((right_Meet.f kj5 (([(⟨a2_0, a2_1, a2_2⟩ : S26)] : List (S26)))).bind fun bt220 => (some (bt220.1 == a2_0 && (bt220.2.1 == a2_1 && (bt220.2.2 == a2_2))))) else (some false))) else (if a2_2 = true then (if (!t168 && (!t169 && (t170 == a3_2))) = true then ((right_Meet.f kj5 (([(⟨a2_0, a2_1, a2_2⟩ : S26)] : List (S26)))).bind fun bt226 => (some (bt226.1 == a2_0 && (bt226.2.1 == a2_1 && (bt226.2.2 == a2_2))))) else (some false)) else (if (!t168 && (!t169 && (!t170))) = true then ((right_Meet.f kj5 (([(⟨a2_0, a2_1, a2_2⟩ : S26)] : List (S26)))).bind fun bt232 => (some (bt232.1 == a2_0 && (bt232.2.1 == a2_1 && (bt232.2.2 == a2_2))))) else (some false))))) else (some false))))) = some r := H
       have A16 := Aside0.mk A160
       clear A160
       replace H := Option.bind_eq_some_iff.mp H
       obtain ⟨⟨t175, t176, t177⟩, A170, H⟩ := H
       replace H : ((right_Meet.f kj5 l1).bind fun bt178 => ((right_Meet.f kj5 (([(⟨t175, t176, t177⟩ : S26), (⟨bt178.1, bt178.2.1, bt178.2.2⟩ : S26)] : List (S26)))).bind fun bt184 => (if (t172 == bt184.1 && (t173 == bt184.2.1 && (t174 == bt184.2.2))) = true then (if a2_0 = true then (if a2_1 = true then (if a2_2 = true then (if (t168 == a3_0 && (t169 == a3_1 && (t170 == a3_2))) = true then ((right_Meet.f kj5 (([(⟨a2_0, a2_1, a2_2⟩ : S26)] : List (S26)))).bind fun bt190 => (some (bt190.1 == a2_0 && (bt190.2.1 == a2_1 && (bt190.2.2 == a2_2))))) else (some false)) else (if (t168 == a3_0 && (t169 == a3_1 && (!t170))) = true then ((right_Meet.f kj5 (([(⟨a2_0, a2_1, a2_2⟩ : S26)] : List (S26)))).bind fun bt196 => (some (bt196.1 == a2_0 && (bt196.2.1 == a2_1 && (bt196.2.2 == a2_2))))) else (some false))) else (if a2_2 = true then (if (t168 == a3_0 && (!t169 && (t170 == a3_2))) = true then ((right_Meet.f kj5 (([(⟨a2_0, a2_1, a2_2⟩ : S26)] : List (S26)))).bind fun bt202 => (some (bt202.1 == a2_0 && (bt202.2.1 == a2_1 && (bt202.2.2 == a2_2))))) else (some false)) else (if (t168 == a3_0 && (!t169 && (!t170))) = true then ((right_Meet.f kj5 (([(⟨a2_0, a2_1, a2_2⟩ : S26)] : List (S26)))).bind fun bt208 => (some (bt208.1 == a2_0 && (bt208.2.1 == a2_1 && (bt208.2.2 == a2_2))))) else (some false)))) else (if a2_1 = true then (if a2_2 = true then (if (!t168 && (t169 == a3_1 && (t170 == a3_2))) = true then ((right_Meet.f kj5 (([(⟨a2_0, a2_1, a2_2⟩ : S26)] : List (S26)))).bind fun bt214 => (some (bt214.1 == a2_0 && (bt214.2.1 == a2_1 && (bt214.2.2 == a2_2))))) else (some false)) else (if (!t168 && (t169 == a3_1 && (!t170))) = true then ((right_Meet.f kj5 (([(⟨a2_0, a2_1, a2_2⟩ : S26)] : List (S26)))).bind fun bt220 => (some (bt220.1 == a2_0 && (bt220.2.1 == a2_1 && (bt220.2.2 == a2_2))))) else (some false))) else (if a2_2 = true then (if (!t168 && (!t169 && (t170 == a3_2))) = true then ((right_Meet.f kj5 (([(⟨a2_0, a2_1, a2_2⟩ : S26)] : List (S26)))).bind fun bt226 => (some (bt226.1 == a2_0 && (bt226.2.1 == a2_1 && (bt226.2.2 == a2_2))))) else (some false)) else (if (!t168 && (!t169 && (!t170))) = true then ((right_Meet.f kj5 (([(⟨a2_0, a2_1, a2_2⟩ : S26)] : List (S26)))).bind fun bt232 => (some (bt232.1 == a2_0 && (bt232.2.1 == a2_1 && (bt232.2.2 == a2_2))))) else (some false))))) else (some false)))) = some r := H
       have A17 := Aside0.mk A170
       clear A170
       replace H := Option.bind_eq_some_iff.mp H
       obtain ⟨⟨t178, t179, t180⟩, A180, H⟩ := H
       replace H : ((right_Meet.f kj5 (([(⟨t175, t176, t177⟩ : S26), (⟨t178, t179, t180⟩ : S26)] : List (S26)))).bind fun bt184 => (if (t172 == bt184.1 && (t173 == bt184.2.1 && (t174 == bt184.2.2))) = true then (if a2_0 = true then (if a2_1 = true then (if a2_2 = true then (if (t168 == a3_0 && (t169 == a3_1 && (t170 == a3_2))) = true then ((right_Meet.f kj5 (([(⟨a2_0, a2_1, a2_2⟩ : S26)] : List (S26)))).bind fun bt190 => (some (bt190.1 == a2_0 && (bt190.2.1 == a2_1 && (bt190.2.2 == a2_2))))) else (some false)) else (if (t168 == a3_0 && (t169 == a3_1 && (!t170))) = true then ((right_Meet.f kj5 (([(⟨a2_0, a2_1, a2_2⟩ : S26)] : List (S26)))).bind fun bt196 => (some (bt196.1 == a2_0 && (bt196.2.1 == a2_1 && (bt196.2.2 == a2_2))))) else (some false))) else (if a2_2 = true then (if (t168 == a3_0 && (!t169 && (t170 == a3_2))) = true then ((right_Meet.f kj5 (([(⟨a2_0, a2_1, a2_2⟩ : S26)] : List (S26)))).bind fun bt202 => (some (bt202.1 == a2_0 && (bt202.2.1 == a2_1 && (bt202.2.2 == a2_2))))) else (some false)) else (if (t168 == a3_0 && (!t169 && (!t170))) = true then ((right_Meet.f kj5 (([(⟨a2_0, a2_1, a2_2⟩ : S26)] : List (S26)))).bind fun bt208 => (some (bt208.1 == a2_0 && (bt208.2.1 == a2_1 && (bt208.2.2 == a2_2))))) else (some false)))) else (if a2_1 = true then (if a2_2 = true then (if (!t168 && (t169 == a3_1 && (t170 == a3_2))) = true then ((right_Meet.f kj5 (([(⟨a2_0, a2_1, a2_2⟩ : S26)] : List (S26)))).bind fun bt214 => (some (bt214.1 == a2_0 && (bt214.2.1 == a2_1 && (bt214.2.2 == a2_2))))) else (some false)) else (if (!t168 && (t169 == a3_1 && (!t170))) = true then ((right_Meet.f kj5 (([(⟨a2_0, a2_1, a2_2⟩ : S26)] : List (S26)))).bind fun bt220 => (some (bt220.1 == a2_0 && (bt220.2.1 == a2_1 && (bt220.2.2 == a2_2))))) else (some false))) else (if a2_2 = true then (if (!t168 && (!t169 && (t170 == a3_2))) = true then ((right_Meet.f kj5 (([(⟨a2_0, a2_1, a2_2⟩ : S26)] : List (S26)))).bind fun bt226 => (some (bt226.1 == a2_0 && (bt226.2.1 == a2_1 && (bt226.2.2 == a2_2))))) else (some false)) else (if (!t168 && (!t169 && (!t170))) = true then ((right_Meet.f kj5 (([(⟨a2_0, a2_1, a2_2⟩ : S26)] : List (S26)))).bind fun bt232 => (some (bt232.1 == a2_0 && (bt232.2.1 == a2_1 && (bt232.2.2 == a2_2))))) else (some false))))) else (some false))) = some r := H
       have A18 := Aside0.mk A180
       clear A180
       obtain ⟨y181, hy181⟩ : ∃ y_ : List (S26), y_ = (([(⟨t175, t176, t177⟩ : S26), (⟨t178, t179, t180⟩ : S26)] : List (S26))) := ⟨_, rfl⟩
       replace H : ((right_Meet.f kj5 y181).bind fun bt184 => (if (t172 == bt184.1 && (t173 == bt184.2.1 && (t174 == bt184.2.2))) = true then (if a2_0 = true then (if a2_1 = true then (if a2_2 = true then (if (t168 == a3_0 && (t169 == a3_1 && (t170 == a3_2))) = true then ((right_Meet.f kj5 (([(⟨a2_0, a2_1, a2_2⟩ : S26)] : List (S26)))).bind fun bt190 => (some (bt190.1 == a2_0 && (bt190.2.1 == a2_1 && (bt190.2.2 == a2_2))))) else (some false)) else (if (t168 == a3_0 && (t169 == a3_1 && (!t170))) = true then ((right_Meet.f kj5 (([(⟨a2_0, a2_1, a2_2⟩ : S26)] : List (S26)))).bind fun bt196 => (some (bt196.1 == a2_0 && (bt196.2.1 == a2_1 && (bt196.2.2 == a2_2))))) else (some false))) else (if a2_2 = true then (if (t168 == a3_0 && (!t169 && (t170 == a3_2))) = true then ((right_Meet.f kj5 (([(⟨a2_0, a2_1, a2_2⟩ : S26)] : List (S26)))).bind fun bt202 => (some (bt202.1 == a2_0 && (bt202.2.1 == a2_1 && (bt202.2.2 == a2_2))))) else (some false)) else (if (t168 == a3_0 && (!t169 && (!t170))) = true then ((right_Meet.f kj5 (([(⟨a2_0, a2_1, a2_2⟩ : S26)] : List (S26)))).bind fun bt208 => (some (bt208.1 == a2_0 && (bt208.2.1 == a2_1 && (bt208.2.2 == a2_2))))) else (some false)))) else (if a2_1 = true then (if a2_2 = true then (if (!t168 && (t169 == a3_1 && (t170 == a3_2))) = true then ((right_Meet.f kj5 (([(⟨a2_0, a2_1, a2_2⟩ : S26)] : List (S26)))).bind fun bt214 => (some (bt214.1 == a2_0 && (bt214.2.1 == a2_1 && (bt214.2.2 == a2_2))))) else (some false)) else (if (!t168 && (t169 == a3_1 && (!t170))) = true then ((right_Meet.f kj5 (([(⟨a2_0, a2_1, a2_2⟩ : S26)] : List (S26)))).bind fun bt220 => (some (bt220.1 == a2_0 && (bt220.2.1 == a2_1 && (bt220.2.2 == a2_2))))) else (some false))) else (if a2_2 = true then (if (!t168 && (!t169 && (t170 == a3_2))) = true then ((right_Meet.f kj5 (([(⟨a2_0, a2_1, a2_2⟩ : S26)] : List (S26)))).bind fun bt226 => (some (bt226.1 == a2_0 && (bt226.2.1 == a2_1 && (bt226.2.2 == a2_2))))) else (some false)) else (if (!t168 && (!t169 && (!t170))) = true then ((right_Meet.f kj5 (([(⟨a2_0, a2_1, a2_2⟩ : S26)] : List (S26)))).bind fun bt232 => (some (bt232.1 == a2_0 && (bt232.2.1 == a2_1 && (bt232.2.2 == a2_2))))) else (some false))))) else (some false))) = some r := by first | (rw [hy181]; with_reducible exact H) | (have H2_ := (Option.bind_some _ _).symm.trans H; rw [hy181]; with_reducible exact H2_) | (have H2_ := (Option.bind_some _ _).symm.trans H; with_reducible exact H2_) | with_reducible exact H | (rw [hy181]; exact H) | exact H
       have Ny181 := Aside0.mk hy181
       clear hy181
       replace H := Option.bind_eq_some_iff.mp H
       obtain ⟨⟨t184, t185, t186⟩, A190, H⟩ := H
       replace H : (if (t172 == t184 && (t173 == t185 && (t174 == t186))) = true then (if a2_0 = true then (if a2_1 = true then (if a2_2 = true then (if (t168 == a3_0 && (t169 == a3_1 && (t170 == a3_2))) = true then ((right_Meet.f kj5 (([(⟨a2_0, a2_1, a2_2⟩ : S26)] : List (S26)))).bind fun bt190 => (some (bt190.1 == a2_0 && (bt190.2.1 == a2_1 && (bt190.2.2 == a2_2))))) else (some false)) else (if (t168 == a3_0 && (t169 == a3_1 && (!t170))) = true then ((right_Meet.f kj5 (([(⟨a2_0, a2_1, a2_2⟩ : S26)] : List (S26)))).bind fun bt196 => (some (bt196.1 == a2_0 && (bt196.2.1 == a2_1 && (bt196.2.2 == a2_2))))) else (some false))) else (if a2_2 = true then (if (t168 == a3_0 && (!t169 && (t170 == a3_2))) = true then ((right_Meet.f kj5 (([(⟨a2_0, a2_1, a2_2⟩ : S26)] : List (S26)))).bind fun bt202 => (some (bt202.1 == a2_0 && (bt202.2.1 == a2_1 && (bt202.2.2 == a2_2))))) else (some false)) else (if (t168 == a3_0 && (!t169 && (!t170))) = true then ((right_Meet.f kj5 (([(⟨a2_0, a2_1, a2_2⟩ : S26)] : List (S26)))).bind fun bt208 => (some (bt208.1 == a2_0 && (bt208.2.1 == a2_1 && (bt208.2.2 == a2_2))))) else (some false)))) else (if a2_1 = true then (if a2_2 = true then (if (!t168 && (t169 == a3_1 && (t170 == a3_2))) = true then ((right_Meet.f kj5 (([(⟨a2_0, a2_1, a2_2⟩ : S26)] : List (S26)))).bind fun bt214 => (some (bt214.1 == a2_0 && (bt214.2.1 == a2_1 && (bt214.2.2 == a2_2))))) else (some false)) else (if (!t168 && (t169 == a3_1 && (!t170))) = true then ((right_Meet.f kj5 (([(⟨a2_0, a2_1, a2_2⟩ : S26)] : List (S26)))).bind fun bt220 => (some (bt220.1 == a2_0 && (bt220.2.1 == a2_1 && (bt220.2.2 == a2_2))))) else (some false))) else (if a2_2 = true then (if (!t168 && (!t169 && (t170 == a3_2))) = true then ((right_Meet.f kj5 (([(⟨a2_0, a2_1, a2_2⟩ : S26)] : List (S26)))).bind fun bt226 => (some (bt226.1 == a2_0 && (bt226.2.1 == a2_1 && (bt226.2.2 == a2_2))))) else (some false)) else (if (!t168 && (!t169 && (!t170))) = true then ((right_Meet.f kj5 (([(⟨a2_0, a2_1, a2_2⟩ : S26)] : List (S26)))).bind fun bt232 => (some (bt232.1 == a2_0 && (bt232.2.1 == a2_1 && (bt232.2.2 == a2_2))))) else (some false))))) else (some false)) = some r := H
       have A19 := Aside0.mk A190
       clear A190
       by_cases c20 : (t172 == t184 && (t173 == t185 && (t174 == t186))) = true
       ·
        rw [if_pos c20] at H
        have c20b0 : (t172 == t184 && (t173 == t185 && (t174 == t186))) = true := c20
        (try (have c20b1 : decide (t172 = t184 && (t173 == t185 && (t174 == t186))) = true := by simpa using c20))
        (try (have c20b2 : (t172 == t184 && (t173 == t185 && (t174 == t186))) = true := by simpa using c20))
        clear c20
        by_cases c21 : a2_0 = true
        ·
         subst c21
         have H1 : (if a2_1 = true then (if a2_2 = true then (if (t168 == a3_0 && (t169 == a3_1 && (t170 == a3_2))) = true then ((right_Meet.f kj5 (([(⟨true, a2_1, a2_2⟩ : S26)] : List (S26)))).bind fun bt190 => (some (bt190.1 == true && (bt190.2.1 == a2_1 && (bt190.2.2 == a2_2))))) else (some false)) else (if (t168 == a3_0 && (t169 == a3_1 && (!t170))) = true then ((right_Meet.f kj5 (([(⟨true, a2_1, a2_2⟩ : S26)] : List (S26)))).bind fun bt196 => (some (bt196.1 == true && (bt196.2.1 == a2_1 && (bt196.2.2 == a2_2))))) else (some false))) else (if a2_2 = true then (if (t168 == a3_0 && (!t169 && (t170 == a3_2))) = true then ((right_Meet.f kj5 (([(⟨true, a2_1, a2_2⟩ : S26)] : List (S26)))).bind fun bt202 => (some (bt202.1 == true && (bt202.2.1 == a2_1 && (bt202.2.2 == a2_2))))) else (some false)) else (if (t168 == a3_0 && (!t169 && (!t170))) = true then ((right_Meet.f kj5 (([(⟨true, a2_1, a2_2⟩ : S26)] : List (S26)))).bind fun bt208 => (some (bt208.1 == true && (bt208.2.1 == a2_1 && (bt208.2.2 == a2_2))))) else (some false)))) = some r := by rw [if_pos rfl] at H; exact H
         clear H
         have H := H1
         clear H1
         by_cases c22 : a2_1 = true
         ·
          subst c22
          have H1 : (if a2_2 = true then (if (t168 == a3_0 && (t169 == a3_1 && (t170 == a3_2))) = true then ((right_Meet.f kj5 (([(⟨true, true, a2_2⟩ : S26)] : List (S26)))).bind fun bt190 => (some (bt190.1 == true && (bt190.2.1 == true && (bt190.2.2 == a2_2))))) else (some false)) else (if (t168 == a3_0 && (t169 == a3_1 && (!t170))) = true then ((right_Meet.f kj5 (([(⟨true, true, a2_2⟩ : S26)] : List (S26)))).bind fun bt196 => (some (bt196.1 == true && (bt196.2.1 == true && (bt196.2.2 == a2_2))))) else (some false))) = some r := by rw [if_pos rfl] at H; exact H
          clear H
          have H := H1
          clear H1
          by_cases c23 : a2_2 = true
          ·
           subst c23
           have H1 : (if (t168 == a3_0 && (t169 == a3_1 && (t170 == a3_2))) = true then ((right_Meet.f kj5 (([(⟨true, true, true⟩ : S26)] : List (S26)))).bind fun bt190 => (some (bt190.1 == true && (bt190.2.1 == true && (bt190.2.2 == true))))) else (some false)) = some r := by rw [if_pos rfl] at H; exact H
           clear H
           have H := H1
           clear H1
           by_cases c24 : (t168 == a3_0 && (t169 == a3_1 && (t170 == a3_2))) = true
           ·
            rw [if_pos c24] at H
            have c24b0 : (t168 == a3_0 && (t169 == a3_1 && (t170 == a3_2))) = true := c24
            (try (have c24b1 : decide (t168 = a3_0 && (t169 == a3_1 && (t170 == a3_2))) = true := by simpa using c24))
            (try (have c24b2 : (t168 == a3_0 && (t169 == a3_1 && (t170 == a3_2))) = true := by simpa using c24))
            clear c24
            obtain ⟨y187, hy187⟩ : ∃ y_ : List (S26), y_ = (([(⟨true, true, true⟩ : S26)] : List (S26))) := ⟨_, rfl⟩
            replace H : ((right_Meet.f kj5 y187).bind fun bt190 => (some (bt190.1 == true && (bt190.2.1 == true && (bt190.2.2 == true))))) = some r := by first | (rw [hy187]; with_reducible exact H) | (have H2_ := (Option.bind_some _ _).symm.trans H; rw [hy187]; with_reducible exact H2_) | (have H2_ := (Option.bind_some _ _).symm.trans H; with_reducible exact H2_) | with_reducible exact H | (rw [hy187]; exact H) | exact H
            have Ny187 := Aside0.mk hy187
            clear hy187
            replace H := Option.bind_eq_some_iff.mp H
            obtain ⟨⟨t190, t191, t192⟩, A250, H⟩ := H
            replace H : (some (t190 == true && (t191 == true && (t192 == true)))) = some r := H
            have A25 := Aside0.mk A250
            clear A250
            obtain rfl := Option.some.inj H
            try go_wp2_with (first | ((with_reducible refine gate_dst (N := 22) rfl ?_); (try (refine gate_guard (by rfl) ?_; dsimp only)); refine Kd.R_lit k26 _ 26 ?hg (N := 22) ?hd (xs := ([] : List (S26))) (inner := []) (ok := fun _ => True) (okp := fun _ => True) ?hr ?hp (fun _ hk => hk) trivial (Below.refl _ _) (Nat.le_refl _) (by simp) ?_; (case hd => rfl); (case hg => rfl); (case hr => first | (go_simp; done) | (go_simp; rfl)); (case hp => exact (Reps.none _ _)); intro v157 w26 ho27 hb hg_ hnew_; clear hg_ hnew_; (first | rw [← Ny156.out] at ho27 | (simp only [Int.reduceToNat] at ho27; rw [← Ny156.out] at ho27)); have n0_ := Aside0.mk (Kd.R_lower (Kd.R_newB (Kd.R_newB ho27 (g := gb153) (o := .cells #[.bool true, .bool true, .bool true] 26 (0, 0)) (by (with_reducible repeat (first | refine blk_drewN ?_ _ | refine blk_drew ?_ | refine blk_alloc ?_ _)); exact BK153.out)) (g := gb154) (o := .cells #[.bool a3_0, .bool a3_1, .bool a3_2] 26 (0, 0)) (by (with_reducible repeat (first | refine blk_drewN ?_ _ | refine blk_drew ?_ | refine blk_alloc ?_ _)); exact BK154.out)) (below_size (by repeat (first | (with_reducible first | exact HB.out | apply below_alloc | apply pw_below_drewN | apply below_drew1 | refine below_set ?_ GE153.out | refine below_set ?_ GE154.out) | exact HB.out)))); have n1_ := Aside0.mk (blk_below (g := gb153) (o := .cells #[.bool true, .bool true, .bool true] 26 (0, 0)) BK153.out hb); have n2_ := Aside0.mk (blk_below (g := gb154) (o := .cells #[.bool a3_0, .bool a3_1, .bool a3_2] 26 (0, 0)) BK154.out hb); have n3_ := Aside0.mk (below_step (by repeat (first | (with_reducible first | exact HB.out | apply below_alloc | apply pw_below_drewN | apply below_drew1 | refine below_set ?_ GE153.out | refine below_set ?_ GE154.out) | exact HB.out)) hb); clear BK153; clear BK154; clear HB; have HO158 := n0_; have BK153 := n1_; have BK154 := n2_; have HB := n3_; clear n0_ n1_ n2_ n3_; clear hb ho27) | ((with_reducible refine gate_builtin (b := .append) (xs := #[.tmp 22, .tmp 23]) rfl ?_); (try (refine gate_guard (by rfl) ?_; dsimp only)); at_builtin; refine Kd.R_append_rows k26 (w0 := w) w.heap.size rfl (.tmp 22) (.tmp 23) 24 26 (.agg #[(.bool false), (.bool false), (.bool false)]) 3 rfl Try.underlying24 info26 rfl (by decide) (by omega) v157 y156 l0 _ _ _ (fun k_ => k_ ≠ gb153 ∧ k_ ≠ gb154) (fun _ => False) rfl rfl ?aO ?aR (fun _ _ h => h) (fun _ h => h.elim) ?aF ?aB ?aS ?aL ?_; (case aR => repeat (first | exact (Kd.C_below HR0.out HB.out) | (with_reducible refine Kd.C_alloc ?_ _) | (with_reducible refine Kd.C_drewN ?_ _) | (with_reducible refine Kd.C_drew ?_))); (case aB => exact (by repeat (first | (with_reducible first | exact HB.out | apply below_alloc | apply pw_below_drewN | apply below_drew1 | refine below_set ?_ GE153.out | refine below_set ?_ GE154.out) | exact HB.out))); (case aF => exact (fun k_ hk => ⟨Kd.freshB (g := gb153) (o := .cells #[.bool true, .bool true, .bool true] 26 (0, 0)) (by (with_reducible repeat (first | refine blk_drewN ?_ _ | refine blk_drew ?_ | refine blk_alloc ?_ _)); exact BK153.out) k_ hk, Kd.freshB (g := gb154) (o := .cells #[.bool a3_0, .bool a3_1, .bool a3_2] 26 (0, 0)) (by (with_reducible repeat (first | refine blk_drewN ?_ _ | refine blk_drew ?_ | refine blk_alloc ?_ _)); exact BK154.out) k_ hk⟩)); (case aO => exact (by (with_reducible repeat (first | apply Kd.R_alloc | apply Kd.R_drewN | apply Kd.R_drew)); exact Kd.R_mono HO158.out (fun _ hk => ⟨hk.1.2, hk.2⟩))); (case aS => exact (below_size (by repeat (first | (with_reducible first | exact HB.out | apply below_alloc | apply pw_below_drewN | apply below_drew1 | refine below_set ?_ GE153.out | refine below_set ?_ GE154.out) | exact HB.out)))); (case aL => have := LMc12.out; omega); intro v160 w28 ho hb hg hat; rw [← Ny159.out] at ho; have n0_ := Aside0.mk (blk_grown (g := gb153) (o := .cells #[.bool true, .bool true, .bool true] 26 (0, 0)) (by (with_reducible repeat (first | refine blk_drewN ?_ _ | refine blk_drew ?_ | refine blk_alloc ?_ _)); exact BK153.out) hg (Kd.R_away HO158.out (fun _ hk => hk.1.2))); have n1_ := Aside0.mk (blk_grown (g := gb154) (o := .cells #[.bool a3_0, .bool a3_1, .bool a3_2] 26 (0, 0)) (by (with_reducible repeat (first | refine blk_drewN ?_ _ | refine blk_drew ?_ | refine blk_alloc ?_ _)); exact BK154.out) hg (Kd.R_away HO158.out (fun _ hk => hk.2))); have n2_ := Aside0.mk (hb); have n3_ := Aside0.mk (ho); clear BK153; clear BK154; clear HB; clear HO158; have BK153 := n0_; have BK154 := n1_; have HB := n2_; have HO161 := n3_; clear n0_ n1_ n2_ n3_; clear ho hb hg hat) | ((with_reducible refine gate_builtin (b := .append) (xs := #[.tmp 24, .tmp 25]) rfl ?_); (try (refine gate_guard (by rfl) ?_; dsimp only)); at_builtin; refine Kd.R_append_rows k26 (w0 := w) w.heap.size rfl (.tmp 24) (.tmp 25) 24 26 (.agg #[(.bool false), (.bool false), (.bool false)]) 3 rfl Try.underlying24 info26 rfl (by decide) (by omega) v160 y159 l1 _ _ _ (fun k_ => k_ ≠ gb153 ∧ k_ ≠ gb154) (fun _ => False) rfl rfl ?aO ?aR (fun _ _ h => h) (fun _ h => h.elim) ?aF ?aB ?aS ?aL ?_; (case aR => repeat (first | exact (Kd.C_below HR1.out HB.out) | (with_reducible refine Kd.C_alloc ?_ _) | (with_reducible refine Kd.C_drewN ?_ _) | (with_reducible refine Kd.C_drew ?_))); (case aB => exact (by repeat (first | (with_reducible first | exact HB.out | apply below_alloc | apply pw_below_drewN | apply below_drew1 | refine below_set ?_ GE153.out | refine below_set ?_ GE154.out) | exact HB.out))); (case aF => exact (fun k_ hk => ⟨Kd.freshB (g := gb153) (o := .cells #[.bool true, .bool true, .bool true] 26 (0, 0)) (by (with_reducible repeat (first | refine blk_drewN ?_ _ | refine blk_drew ?_ | refine blk_alloc ?_ _)); exact BK153.out) k_ hk, Kd.freshB (g := gb154) (o := .cells #[.bool a3_0, .bool a3_1, .bool a3_2] 26 (0, 0)) (by (with_reducible repeat (first | refine blk_drewN ?_ _ | refine blk_drew ?_ | refine blk_alloc ?_ _)); exact BK154.out) k_ hk⟩)); (case aO => exact HO161.out); (case aS => exact (below_size (by repeat (first | (with_reducible first | exact HB.out | apply below_alloc | apply pw_below_drewN | apply below_drew1 | refine below_set ?_ GE153.out | refine below_set ?_ GE154.out) | exact HB.out)))); (case aL => have := LMc13.out; omega); intro v163 w29 ho hb hg hat; rw [← Ny162.out] at ho; have n0_ := Aside0.mk (blk_grown (g := gb153) (o := .cells #[.bool true, .bool true, .bool true] 26 (0, 0)) (by (with_reducible repeat (first | refine blk_drewN ?_ _ | refine blk_drew ?_ | refine blk_alloc ?_ _)); exact BK153.out) hg (Kd.R_away HO161.out (fun _ hk => hk.1))); have n1_ := Aside0.mk (blk_grown (g := gb154) (o := .cells #[.bool a3_0, .bool a3_1, .bool a3_2] 26 (0, 0)) (by (with_reducible repeat (first | refine blk_drewN ?_ _ | refine blk_drew ?_ | refine blk_alloc ?_ _)); exact BK154.out) hg (Kd.R_away HO161.out (fun _ hk => hk.2))); have n2_ := Aside0.mk (hb); have n3_ := Aside0.mk (ho); clear BK153; clear BK154; clear HB; clear HO161; have BK153 := n0_; have BK154 := n1_; have HB := n2_; have HO164 := n3_; clear n0_ n1_ n2_ n3_; clear ho hb hg hat; have hnb30 := NB153_154.out; have hnc30 := NB154_153.out; have hcz31_0 : w29.cell? ⟨gb153, 0, none⟩ = some (.bool true) := (blk_cell BK153.out 0).trans rfl; have hcz31_1 : w29.cell? ⟨gb153, 1, none⟩ = some (.bool true) := (blk_cell BK153.out 1).trans rfl; have hcz31_2 : w29.cell? ⟨gb153, 2, none⟩ = some (.bool true) := (blk_cell BK153.out 2).trans rfl; have hfz31_0 := blk_frozen BK153.out 0; have hfz31_1 := blk_frozen BK153.out 1; have hfz31_2 := blk_frozen BK153.out 2; have hcz32_0 : w29.cell? ⟨gb154, 0, none⟩ = some (.bool a3_0) := (blk_cell BK154.out 0).trans rfl; have hcz32_1 : w29.cell? ⟨gb154, 1, none⟩ = some (.bool a3_1) := (blk_cell BK154.out 1).trans rfl; have hcz32_2 : w29.cell? ⟨gb154, 2, none⟩ = some (.bool a3_2) := (blk_cell BK154.out 2).trans rfl; have hfz32_0 := blk_frozen BK154.out 0; have hfz32_1 := blk_frozen BK154.out 1; have hfz32_2 := blk_frozen BK154.out 2) | ((with_reducible refine gate_dst (N := 29) rfl ?_); (try (refine gate_guard (by rfl) ?_; dsimp only)); refine Kd.R_lit k26 _ 26 ?hg (N := 29) ?hd (xs := ([(⟨true, true, true⟩ : S26), (⟨a3_0, a3_1, a3_2⟩ : S26)] : List (S26))) (inner := [.bool true, .bool true, .bool true, .bool a3_0, .bool a3_1, .bool a3_2]) (ok := fun _ => True) (okp := fun _ => True) ?hr ?hp (fun _ hk => hk) trivial (Below.refl _ _) (Nat.le_refl _) (by simp) ?_; (case hd => rfl); (case hg => rfl); (case hr => first | (go_simp; done) | (go_simp; rfl)); (case hp => exact (Reps.c3 (show Kd.M k26 _ _ _ (⟨true, true, true⟩ : S26) [.bool true, .bool true, .bool true] from (k26_mkM _ _ _ (⟨true, true, true⟩ : S26) )) (Reps.c3 (show Kd.M k26 _ _ _ (⟨a3_0, a3_1, a3_2⟩ : S26) [.bool a3_0, .bool a3_1, .bool a3_2] from (k26_mkM _ _ _ (⟨a3_0, a3_1, a3_2⟩ : S26) )) (Reps.none _ _)))); intro v166 w33 ho34 hb hg_ hnew_; clear hg_ hnew_; (first | rw [← Ny165.out] at ho34 | (simp only [Int.reduceToNat] at ho34; rw [← Ny165.out] at ho34)); have n0_ := Aside0.mk (Kd.R_elder' HO164.out (Kd.R_base ho34) hb); have n1_ := Aside0.mk (Kd.R_lower (Kd.R_newB (Kd.R_newB (Kd.R_new' ho34 (Kd.R_lt HO164.out)) (g := gb153) (o := .cells #[.bool true, .bool true, .bool true] 26 (0, 0)) (by (with_reducible repeat (first | refine blk_drewN ?_ _ | refine blk_drew ?_ | refine blk_alloc ?_ _)); exact BK153.out)) (g := gb154) (o := .cells #[.bool a3_0, .bool a3_1, .bool a3_2] 26 (0, 0)) (by (with_reducible repeat (first | refine blk_drewN ?_ _ | refine blk_drew ?_ | refine blk_alloc ?_ _)); exact BK154.out)) (below_size (by repeat (first | (with_reducible first | exact HB.out | apply below_alloc | apply pw_below_drewN | apply below_drew1 | refine below_set ?_ GE153.out | refine below_set ?_ GE154.out) | exact HB.out)))); have n2_ := Aside0.mk (blk_below (g := gb153) (o := .cells #[.bool true, .bool true, .bool true] 26 (0, 0)) BK153.out hb); have n3_ := Aside0.mk (blk_below (g := gb154) (o := .cells #[.bool a3_0, .bool a3_1, .bool a3_2] 26 (0, 0)) BK154.out hb); have n4_ := Aside0.mk (below_step (by repeat (first | (with_reducible first | exact HB.out | apply below_alloc | apply pw_below_drewN | apply below_drew1 | refine below_set ?_ GE153.out | refine below_set ?_ GE154.out) | exact HB.out)) hb); clear HO164; clear BK153; clear BK154; clear HB; have HO164 := n0_; have HO167 := n1_; have BK153 := n2_; have BK154 := n3_; have HB := n4_; clear n0_ n1_ n2_ n3_ n4_; clear hb ho34; obtain ⟨Ao35, co35, eo35⟩ := Kd.R_slice HO167.out; subst eo35) | ((with_reducible refine gate_callee (f := 15) rfl ?_); refine goesL_ (some 30) rfl rfl Try.func15 (by kernel_rfl) rfl #[.slice Ao35 y165.length co35] rfl (by (try simp only [List.map_toArray, List.map_cons, List.map_nil]); first | done | rfl | (simp only [List.length_drop, List.length_take]; rfl)) ?_; (with_reducible refine (right_Meet.calls kj5 _ _ y165 t168 t169 t170 _ ?side1 ?side2 A14.out).mono ?_); (case side1 => repeat (first | exact (Kd.R_reads' HO167.out).2.2 | (with_reducible refine Kd.C_alloc ?_ _) | (with_reducible refine Kd.C_drewN ?_ _) | (with_reducible refine Kd.C_drew ?_))); (case side2 => exact (Kd.R_reads' HO167.out).2.1); rintro e w36 ⟨rfl, hb⟩; refine ⟨_, rfl, ?_⟩; have n0_ := Aside0.mk (Kd.R_below HO164.out hb); have n1_ := Aside0.mk (Kd.R_below HO167.out hb); have n2_ := Aside0.mk (blk_below (g := gb153) (o := .cells #[.bool true, .bool true, .bool true] 26 (0, 0)) BK153.out hb); have n3_ := Aside0.mk (blk_below (g := gb154) (o := .cells #[.bool a3_0, .bool a3_1, .bool a3_2] 26 (0, 0)) BK154.out hb); have n4_ := Aside0.mk (below_step (by repeat (first | (with_reducible first | exact HB.out | apply below_alloc | apply pw_below_drewN | apply below_drew1 | refine below_set ?_ GE153.out | refine below_set ?_ GE154.out) | exact HB.out)) hb); clear HO164; clear HO167; clear BK153; clear BK154; clear HB; have HO164 := n0_; have HO167 := n1_; have BK153 := n2_; have BK154 := n3_; have HB := n4_; clear n0_ n1_ n2_ n3_ n4_; (try clear hb); (try clear hb2); (try clear hk); (try clear hi)) | ((with_reducible refine gate_dst (N := 11) rfl ?_); (try (refine gate_guard (by rfl) ?_; dsimp only)); refine box_event ?hg (N := 11) ?hd (cs := #[.bool false, .bool false, .bool false]) (t := 26) ?hr ?_; (case hd => rfl); (case hg => rfl); (case hr => first | (go_simp; done) | (go_simp; rfl)); intro gb171 hg w37 hbox hb; have n0_ := Aside0.mk (Kd.R_below (Kd.R_elderB HO164.out gb171 (Nat.le_of_eq hg.symm)) hb); have n1_ := Aside0.mk (Kd.R_below (Kd.R_elderB HO167.out gb171 (Nat.le_of_eq hg.symm)) hb); have n2_ := Aside0.mk (blk_below (g := gb153) (o := .cells #[.bool true, .bool true, .bool true] 26 (0, 0)) BK153.out hb); have n3_ := Aside0.mk (blk_below (g := gb154) (o := .cells #[.bool a3_0, .bool a3_1, .bool a3_2] 26 (0, 0)) BK154.out hb); have n4_ := Aside0.mk (below_step (by repeat (first | (with_reducible first | exact HB.out | apply below_alloc | apply pw_below_drewN | apply below_drew1 | refine below_set ?_ GE153.out | refine below_set ?_ GE154.out) | exact HB.out)) hb); have n5_ := Aside0.mk (hbox); have n6_ := Aside0.mk ((by rw [hg]; exact (below_size (by repeat (first | (with_reducible first | exact HB.out | apply below_alloc | apply pw_below_drewN | apply below_drew1 | refine below_set ?_ GE153.out | refine below_set ?_ GE154.out) | exact HB.out))) : w.heap.size ≤ gb171)); have n7_ := Aside0.mk ((by rw [hg]; exact (below_size (by repeat (first | (with_reducible first | exact HB.out | apply below_alloc | apply pw_below_drewN | apply below_drew1 | refine below_set ?_ GE153.out | refine below_set ?_ GE154.out) | exact HB.out))) : w.heap.size ≤ gb171)); have n8_ := Aside0.mk ((by rw [hg]; exact Nat.ne_of_lt (blk_lt (g := gb153) (o := .cells #[.bool true, .bool true, .bool true] 26 (0, 0)) (by (with_reducible repeat (first | refine blk_drewN ?_ _ | refine blk_drew ?_ | refine blk_alloc ?_ _)); exact BK153.out)) : gb153 ≠ gb171)); have n9_ := Aside0.mk ((by rw [hg]; exact Nat.ne_of_gt (blk_lt (g := gb153) (o := .cells #[.bool true, .bool true, .bool true] 26 (0, 0)) (by (with_reducible repeat (first | refine blk_drewN ?_ _ | refine blk_drew ?_ | refine blk_alloc ?_ _)); exact BK153.out)) : gb171 ≠ gb153)); have n10_ := Aside0.mk ((by rw [hg]; exact Nat.ne_of_lt (blk_lt (g := gb154) (o := .cells #[.bool a3_0, .bool a3_1, .bool a3_2] 26 (0, 0)) (by (with_reducible repeat (first | refine blk_drewN ?_ _ | refine blk_drew ?_ | refine blk_alloc ?_ _)); exact BK154.out)) : gb154 ≠ gb171)); have n11_ := Aside0.mk ((by rw [hg]; exact Nat.ne_of_gt (blk_lt (g := gb154) (o := .cells #[.bool a3_0, .bool a3_1, .bool a3_2] 26 (0, 0)) (by (with_reducible repeat (first | refine blk_drewN ?_ _ | refine blk_drew ?_ | refine blk_alloc ?_ _)); exact BK154.out)) : gb171 ≠ gb154)); clear HO164; clear HO167; clear BK153; clear BK154; clear HB; have HO164 := n0_; have HO167 := n1_; have BK153 := n2_; have BK154 := n3_; have HB := n4_; have BK171 := n5_; have GW171 := n6_; have GE171 := n7_; have NB153_171 := n8_; have NB171_153 := n9_; have NB154_171 := n10_; have NB171_154 := n11_; clear n0_ n1_ n2_ n3_ n4_ n5_ n6_ n7_ n8_ n9_ n10_ n11_; clear hb hbox hg; have hnb38 := NB171_153.out; have hnc38 := NB153_171.out; have hnb39 := NB171_154.out; have hnc39 := NB154_171.out; have hcz40_0 : w37.cell? ⟨gb171, 0, none⟩ = some (.bool false) := (blk_cell BK171.out 0).trans rfl; have hcz40_1 : w37.cell? ⟨gb171, 1, none⟩ = some (.bool false) := (blk_cell BK171.out 1).trans rfl; have hcz40_2 : w37.cell? ⟨gb171, 2, none⟩ = some (.bool false) := (blk_cell BK171.out 2).trans rfl; have hfz40_0 := blk_frozen BK171.out 0; have hfz40_1 := blk_frozen BK171.out 1; have hfz40_2 := blk_frozen BK171.out 2))
            have n0_ : Aside0 (Kd.R k26 26 (((w37.setCell ⟨gb171, 0, none⟩ (.bool t168)).setCell ⟨gb171, 1, none⟩ (.bool t169)).setCell ⟨gb171, 2, none⟩ (.bool t170)) w.heap.size (fun k_ => some k_ ≠ (.slice Ao35 y165.length co35 : Value).ownBlock ∧ k_ ≠ gb153 ∧ k_ ≠ gb154 ∧ k_ ≠ gb171) v163 y162) := ⟨by (with_reducible repeat (first | apply Kd.R_alloc | apply Kd.R_drewN | apply Kd.R_drew)); exact Kd.R_mono (Kd.R_far (p := ⟨gb171, 2, none⟩) (Kd.R_far (p := ⟨gb171, 1, none⟩) (Kd.R_far (p := ⟨gb171, 0, none⟩) (Kd.R_mono HO164.out (fun k_ hk => (⟨hk, hk.2⟩ : _ ∧ k_ ≠ gb171))) (fun _ hk => hk.2) (.bool t168)) (fun _ hk => hk.2) (.bool t169)) (fun _ hk => hk.2) (.bool t170)) (fun _ hk => ⟨hk.1.1.2, ⟨hk.1.1.1.1, ⟨hk.1.1.1.2, hk.1.2⟩⟩⟩)⟩
            have n1_ : Aside0 (Kd.R k26 26 (((w37.setCell ⟨gb171, 0, none⟩ (.bool t168)).setCell ⟨gb171, 1, none⟩ (.bool t169)).setCell ⟨gb171, 2, none⟩ (.bool t170)) w.heap.size (fun k_ => some k_ ≠ (v163 : Value).ownBlock ∧ k_ ≠ gb153 ∧ k_ ≠ gb154 ∧ k_ ≠ gb171) (.slice Ao35 y165.length co35) y165) := ⟨by (with_reducible repeat (first | apply Kd.R_alloc | apply Kd.R_drewN | apply Kd.R_drew)); exact Kd.R_mono (Kd.R_far (p := ⟨gb171, 2, none⟩) (Kd.R_far (p := ⟨gb171, 1, none⟩) (Kd.R_far (p := ⟨gb171, 0, none⟩) (Kd.R_mono HO167.out (fun k_ hk => (⟨hk, hk.2⟩ : _ ∧ k_ ≠ gb171))) (fun _ hk => hk.2) (.bool t168)) (fun _ hk => hk.2) (.bool t169)) (fun _ hk => hk.2) (.bool t170)) (fun _ hk => ⟨hk.1.1.1.1.2, ⟨hk.1.1.1.2, ⟨hk.1.1.2, hk.1.2⟩⟩⟩)⟩
            have n2_ : Aside0 ((((w37.setCell ⟨gb171, 0, none⟩ (.bool t168)).setCell ⟨gb171, 1, none⟩ (.bool t169)).setCell ⟨gb171, 2, none⟩ (.bool t170)).heap[gb153]? = some (.cells #[.bool true, .bool true, .bool true] 26 (0, 0))) := ⟨by (with_reducible repeat (first | refine blk_drewN ?_ _ | refine blk_drew ?_ | refine blk_alloc ?_ _)); refine blk_far ?_ NB153_171.out _; (with_reducible repeat (first | refine blk_drewN ?_ _ | refine blk_drew ?_ | refine blk_alloc ?_ _)); refine blk_far ?_ NB153_171.out _; (with_reducible repeat (first | refine blk_drewN ?_ _ | refine blk_drew ?_ | refine blk_alloc ?_ _)); refine blk_far ?_ NB153_171.out _; (with_reducible repeat (first | refine blk_drewN ?_ _ | refine blk_drew ?_ | refine blk_alloc ?_ _)); exact BK153.out⟩
            have n3_ : Aside0 ((((w37.setCell ⟨gb171, 0, none⟩ (.bool t168)).setCell ⟨gb171, 1, none⟩ (.bool t169)).setCell ⟨gb171, 2, none⟩ (.bool t170)).heap[gb154]? = some (.cells #[.bool a3_0, .bool a3_1, .bool a3_2] 26 (0, 0))) := ⟨by (with_reducible repeat (first | refine blk_drewN ?_ _ | refine blk_drew ?_ | refine blk_alloc ?_ _)); refine blk_far ?_ NB154_171.out _; (with_reducible repeat (first | refine blk_drewN ?_ _ | refine blk_drew ?_ | refine blk_alloc ?_ _)); refine blk_far ?_ NB154_171.out _; (with_reducible repeat (first | refine blk_drewN ?_ _ | refine blk_drew ?_ | refine blk_alloc ?_ _)); refine blk_far ?_ NB154_171.out _; (with_reducible repeat (first | refine blk_drewN ?_ _ | refine blk_drew ?_ | refine blk_alloc ?_ _)); exact BK154.out⟩
            have n4_ : Aside0 ((((w37.setCell ⟨gb171, 0, none⟩ (.bool t168)).setCell ⟨gb171, 1, none⟩ (.bool t169)).setCell ⟨gb171, 2, none⟩ (.bool t170)).heap[gb171]? = some (.cells #[.bool t168, .bool t169, .bool t170] 26 (0, 0))) := ⟨by (with_reducible repeat (first | refine blk_drewN ?_ _ | refine blk_drew ?_ | refine blk_alloc ?_ _)); refine blk_put (cs := #[.bool t168, .bool t169, .bool false]) ?_ 2 _ rfl; (with_reducible repeat (first | refine blk_drewN ?_ _ | refine blk_drew ?_ | refine blk_alloc ?_ _)); refine blk_put (cs := #[.bool t168, .bool false, .bool false]) ?_ 1 _ rfl; (with_reducible repeat (first | refine blk_drewN ?_ _ | refine blk_drew ?_ | refine blk_alloc ?_ _)); refine blk_put (cs := #[.bool false, .bool false, .bool false]) ?_ 0 _ rfl; (with_reducible repeat (first | refine blk_drewN ?_ _ | refine blk_drew ?_ | refine blk_alloc ?_ _)); exact BK171.out⟩
            have n5_ : Aside0 (Below w.heap.size w (((w37.setCell ⟨gb171, 0, none⟩ (.bool t168)).setCell ⟨gb171, 1, none⟩ (.bool t169)).setCell ⟨gb171, 2, none⟩ (.bool t170))) := ⟨by repeat (first | (with_reducible first | exact HB.out | apply below_alloc | apply pw_below_drewN | apply below_drew1 | refine below_set ?_ GE153.out | refine below_set ?_ GE154.out | refine below_set ?_ GE171.out) | exact HB.out)⟩
            (try clear HO164)
            (try clear HO167)
            (try clear BK153)
            (try clear BK154)
            (try clear BK171)
            (try clear HB)
            generalize (((w37.setCell ⟨gb171, 0, none⟩ (.bool t168)).setCell ⟨gb171, 1, none⟩ (.bool t169)).setCell ⟨gb171, 2, none⟩ (.bool t170)) = w41 at n0_ n1_ n2_ n3_ n4_ n5_ ⊢
            have HO164 := n0_
            have HO167 := n1_
            have BK153 := n2_
            have BK154 := n3_
            have BK171 := n4_
            have HB := n5_
            clear n0_ n1_ n2_ n3_ n4_ n5_
            have n0_ := Aside0.mk (Kd.R_drew HO164.out)
            have n1_ := Aside0.mk (Kd.R_drew HO167.out)
            have n2_ := Aside0.mk (blk_drew BK153.out)
            have n3_ := Aside0.mk (blk_drew BK154.out)
            have n4_ := Aside0.mk (blk_drew BK171.out)
            have n5_ := Aside0.mk (below_drew1 HB.out)
            clear HO164
            clear HO167
            clear BK153
            clear BK154
            clear BK171
            clear HB
            have HO164 := n0_
            have HO167 := n1_
            have BK153 := n2_
            have BK154 := n3_
            have BK171 := n4_
            have HB := n5_
            clear n0_ n1_ n2_ n3_ n4_ n5_
            obtain ⟨Ao43, co43, eo43⟩ := Kd.R_slice HO164.out
            (first | subst eo43 | (injection eo43 with f1_ f2_ f3_; have f4_ := f1_.symm; have f5_ := f3_.symm; clear f1_ f2_ f3_; subst f4_; subst f5_))
            refine start_ (n := 43) (S := fun w' => w'.cell? ⟨gb171, 0, none⟩ = some (.bool t168) ∧ w'.cell? ⟨gb171, 1, none⟩ = some (.bool t169) ∧ w'.cell? ⟨gb171, 2, none⟩ = some (.bool t170) ∧ w'.cell? ⟨gb153, 0, none⟩ = some (.bool true) ∧ w'.cell? ⟨gb153, 1, none⟩ = some (.bool true) ∧ w'.cell? ⟨gb153, 2, none⟩ = some (.bool true) ∧ w'.cell? ⟨gb154, 0, none⟩ = some (.bool a3_0) ∧ w'.cell? ⟨gb154, 1, none⟩ = some (.bool a3_1) ∧ w'.cell? ⟨gb154, 2, none⟩ = some (.bool a3_2)) (ds := []) AL0 (by kernel_rfl) rfl rfl ⟨(blk_cell BK171.out 0).trans rfl, (blk_cell BK171.out 1).trans rfl, (blk_cell BK171.out 2).trans rfl, (blk_cell BK153.out 0).trans rfl, (blk_cell BK153.out 1).trans rfl, (blk_cell BK153.out 2).trans rfl, (blk_cell BK154.out 0).trans rfl, (blk_cell BK154.out 1).trans rfl, (blk_cell BK154.out 2).trans rfl⟩ (fun hHeld => ?_); refine with_tabW silhouettelaw06_RightParts.tab6 silhouettelaw06_RightParts.bits6 (fun HT_ HW_ => ?_)
            generalize w41.drew = w42 at HO164 HO167 BK153 BK154 BK171 HB hHeld ⊢
            refine pure_ (i := 0) (N := some 31) (v := ?_) (a' := ?_) AL1 rfl rfl (any_of HT_.out (by kernel_rfl)) (fun _ _ _ h => h) (Or.inl ⟨by rfl, ?_⟩) ?_ ?_
            rotate_left
            ·
             intro w'
             go_simp
             with_reducible rfl
            rotate_left
            ·
             simp only [Act.put, List.setIfInBounds_toArray, List.set_cons_zero, List.set_cons_succ, i64_w, i32_w]
             rfl
            refine pure_ (i := 1) (N := some 32) (v := ?_) (a' := ?_) AL2 rfl rfl (any_of HT_.out (by kernel_rfl)) (fun _ _ _ h => h) (Or.inl ⟨by rfl, ?_⟩) ?_ ?_
            rotate_left
            ·
             intro w'
             go_simp
             with_reducible rfl
            rotate_left
            ·
             simp only [Act.put, List.setIfInBounds_toArray, List.set_cons_zero, List.set_cons_succ, i64_w, i32_w]
             rfl
            refine pure_ (i := 2) (N := some 33) (v := ?_) (a' := ?_) AL3 rfl rfl (any_of HT_.out (by kernel_rfl)) (fun _ _ _ h => h) (Or.inl ⟨by rfl, ?_⟩) ?_ ?_
            rotate_left
            ·
             intro w'
             go_simp
             with_reducible rfl
            rotate_left
            ·
             simp only [Act.put, List.setIfInBounds_toArray, List.set_cons_zero, List.set_cons_succ, i64_w, i32_w]
             rfl
            refine pure_ (i := 4) (N := some 35) (v := ?_) (a' := ?_) AL4 rfl rfl (any_of HT_.out (by kernel_rfl)) (fun _ _ _ h => h) (Or.inl ⟨by rfl, ?_⟩) ?_ ?_
            rotate_left
            ·
             intro w'
             go_simp
             with_reducible rfl
            rotate_left
            ·
             simp only [Act.put, List.setIfInBounds_toArray, List.set_cons_zero, List.set_cons_succ, i64_w, i32_w]
             rfl
            refine pure_ (i := 6) (N := some 37) (v := ?_) (a' := ?_) AL5 rfl rfl (any_of HT_.out (by kernel_rfl)) (fun _ _ _ h => h) (Or.inl ⟨by rfl, ?_⟩) ?_ ?_
            rotate_left
            ·
             intro w'
             go_simp
             with_reducible rfl
            rotate_left
            ·
             simp only [Act.put, List.setIfInBounds_toArray, List.set_cons_zero, List.set_cons_succ, i64_w, i32_w]
             rfl
            refine one_ (i := 3) (N := some 34) AL6 rfl rfl (one_of HT_.out (by kernel_rfl)) (by decide) (fun K hK => ?_)
            refine goes_ Try.func15 (by kernel_rfl) rfl #[.slice Ao43 y162.length co43] (by rfl) rfl rfl (by (try simp only [List.map_toArray, List.map_cons, List.map_nil]); first | done | rfl | (simp only [List.length_drop, List.length_take]; rfl)) ?_
            with_reducible refine (right_Meet.calls kj5 _ _ y162 t172 t173 t174 _ ?side1 ?side2 A16.out).mono ?_
            (case side1 => repeat (first | exact (Kd.R_reads' HO164.out).2.2 | (with_reducible refine Kd.C_alloc ?_ _) | (with_reducible refine Kd.C_drewN ?_ _) | (with_reducible refine Kd.C_drew ?_)))
            (case side2 => exact (Kd.R_reads' HO164.out).2.1)
            rintro e w44 ⟨rfl, hb⟩
            refine ⟨_, rfl, ?_⟩
            have n0_ := Aside0.mk (Kd.R_below HO164.out hb)
            have n1_ := Aside0.mk (Kd.R_below HO167.out hb)
            have n2_ := Aside0.mk (blk_below (g := gb153) (o := .cells #[.bool true, .bool true, .bool true] 26 (0, 0)) BK153.out hb)
            have n3_ := Aside0.mk (blk_below (g := gb154) (o := .cells #[.bool a3_0, .bool a3_1, .bool a3_2] 26 (0, 0)) BK154.out hb)
            have n4_ := Aside0.mk (blk_below (g := gb171) (o := .cells #[.bool t168, .bool t169, .bool t170] 26 (0, 0)) BK171.out hb)
            have n5_ := Aside0.mk (below_step (by repeat (first | (with_reducible first | exact HB.out | apply below_alloc | apply pw_below_drewN | apply below_drew1 | refine below_set ?_ GE153.out | refine below_set ?_ GE154.out | refine below_set ?_ GE171.out) | exact HB.out)) hb)
            clear HO164
            clear HO167
            clear BK153
            clear BK154
            clear BK171
            clear HB
            have HO164 := n0_
            have HO167 := n1_
            have BK153 := n2_
            have BK154 := n3_
            have BK171 := n4_
            have HB := n5_
            clear n0_ n1_ n2_ n3_ n4_ n5_
            (try clear hb)
            (try clear hb2)
            (try clear hk)
            (try clear hi)
            refine hK.out _ _ ⟨(blk_cell BK171.out 0).trans rfl, (blk_cell BK171.out 1).trans rfl, (blk_cell BK171.out 2).trans rfl, (blk_cell BK153.out 0).trans rfl, (blk_cell BK153.out 1).trans rfl, (blk_cell BK153.out 2).trans rfl, (blk_cell BK154.out 0).trans rfl, (blk_cell BK154.out 1).trans rfl, (blk_cell BK154.out 2).trans rfl⟩ (fun hHeld => ?_)
            clear hK K
            refine norm_ (a' := ?_) ?_ ?_
            rotate_left
            ·
             show Act.put _ (some 34) _ = _
             simp only [Act.put, List.setIfInBounds_toArray, List.set_cons_zero, List.set_cons_succ, i64_w, i32_w]
             rfl
            refine one_ (i := 5) (N := some 36) AL7 rfl rfl (one_of HT_.out (by kernel_rfl)) (by decide) (fun K hK => ?_)
            refine goes_ Try.func15 (by kernel_rfl) rfl #[.slice A0 l0.length c0] (by rfl) rfl rfl (by (try simp only [List.map_toArray, List.map_cons, List.map_nil]); first | done | rfl | (simp only [List.length_drop, List.length_take]; rfl)) ?_
            with_reducible refine (right_Meet.calls kj5 _ _ l0 t175 t176 t177 _ ?side1 ?side2 A17.out).mono ?_
            (case side1 => repeat (first | exact (Kd.C_below HR0.out HB.out) | (with_reducible refine Kd.C_alloc ?_ _) | (with_reducible refine Kd.C_drewN ?_ _) | (with_reducible refine Kd.C_drew ?_)))
            (case side2 => exact HC0.out)
            rintro e w45 ⟨rfl, hb⟩
            refine ⟨_, rfl, ?_⟩
            have n0_ := Aside0.mk (Kd.R_below HO164.out hb)
            have n1_ := Aside0.mk (Kd.R_below HO167.out hb)
            have n2_ := Aside0.mk (blk_below (g := gb153) (o := .cells #[.bool true, .bool true, .bool true] 26 (0, 0)) BK153.out hb)
            have n3_ := Aside0.mk (blk_below (g := gb154) (o := .cells #[.bool a3_0, .bool a3_1, .bool a3_2] 26 (0, 0)) BK154.out hb)
            have n4_ := Aside0.mk (blk_below (g := gb171) (o := .cells #[.bool t168, .bool t169, .bool t170] 26 (0, 0)) BK171.out hb)
            have n5_ := Aside0.mk (below_step (by repeat (first | (with_reducible first | exact HB.out | apply below_alloc | apply pw_below_drewN | apply below_drew1 | refine below_set ?_ GE153.out | refine below_set ?_ GE154.out | refine below_set ?_ GE171.out) | exact HB.out)) hb)
            clear HO164
            clear HO167
            clear BK153
            clear BK154
            clear BK171
            clear HB
            have HO164 := n0_
            have HO167 := n1_
            have BK153 := n2_
            have BK154 := n3_
            have BK171 := n4_
            have HB := n5_
            clear n0_ n1_ n2_ n3_ n4_ n5_
            (try clear hb)
            (try clear hb2)
            (try clear hk)
            (try clear hi)
            refine hK.out _ _ ⟨(blk_cell BK171.out 0).trans rfl, (blk_cell BK171.out 1).trans rfl, (blk_cell BK171.out 2).trans rfl, (blk_cell BK153.out 0).trans rfl, (blk_cell BK153.out 1).trans rfl, (blk_cell BK153.out 2).trans rfl, (blk_cell BK154.out 0).trans rfl, (blk_cell BK154.out 1).trans rfl, (blk_cell BK154.out 2).trans rfl⟩ (fun hHeld => ?_)
            clear hK K
            refine norm_ (a' := ?_) ?_ ?_
            rotate_left
            ·
             show Act.put _ (some 36) _ = _
             simp only [Act.put, List.setIfInBounds_toArray, List.set_cons_zero, List.set_cons_succ, i64_w, i32_w]
             rfl
            refine one_ (i := 7) (N := some 38) AL8 rfl rfl (one_of HT_.out (by kernel_rfl)) (by decide) (fun K hK => ?_)
            refine goes_ Try.func15 (by kernel_rfl) rfl #[.slice A1 l1.length c1] (by rfl) rfl rfl (by (try simp only [List.map_toArray, List.map_cons, List.map_nil]); first | done | rfl | (simp only [List.length_drop, List.length_take]; rfl)) ?_
            with_reducible refine (right_Meet.calls kj5 _ _ l1 t178 t179 t180 _ ?side1 ?side2 A18.out).mono ?_
            (case side1 => repeat (first | exact (Kd.C_below HR1.out HB.out) | (with_reducible refine Kd.C_alloc ?_ _) | (with_reducible refine Kd.C_drewN ?_ _) | (with_reducible refine Kd.C_drew ?_)))
            (case side2 => exact HC1.out)
            rintro e w46 ⟨rfl, hb⟩
            refine ⟨_, rfl, ?_⟩
            have n0_ := Aside0.mk (Kd.R_below HO164.out hb)
            have n1_ := Aside0.mk (Kd.R_below HO167.out hb)
            have n2_ := Aside0.mk (blk_below (g := gb153) (o := .cells #[.bool true, .bool true, .bool true] 26 (0, 0)) BK153.out hb)
            have n3_ := Aside0.mk (blk_below (g := gb154) (o := .cells #[.bool a3_0, .bool a3_1, .bool a3_2] 26 (0, 0)) BK154.out hb)
            have n4_ := Aside0.mk (blk_below (g := gb171) (o := .cells #[.bool t168, .bool t169, .bool t170] 26 (0, 0)) BK171.out hb)
            have n5_ := Aside0.mk (below_step (by repeat (first | (with_reducible first | exact HB.out | apply below_alloc | apply pw_below_drewN | apply below_drew1 | refine below_set ?_ GE153.out | refine below_set ?_ GE154.out | refine below_set ?_ GE171.out) | exact HB.out)) hb)
            clear HO164
            clear HO167
            clear BK153
            clear BK154
            clear BK171
            clear HB
            have HO164 := n0_
            have HO167 := n1_
            have BK153 := n2_
            have BK154 := n3_
            have BK171 := n4_
            have HB := n5_
            clear n0_ n1_ n2_ n3_ n4_ n5_
            (try clear hb)
            (try clear hb2)
            (try clear hk)
            (try clear hi)
            refine hK.out _ _ ⟨(blk_cell BK171.out 0).trans rfl, (blk_cell BK171.out 1).trans rfl, (blk_cell BK171.out 2).trans rfl, (blk_cell BK153.out 0).trans rfl, (blk_cell BK153.out 1).trans rfl, (blk_cell BK153.out 2).trans rfl, (blk_cell BK154.out 0).trans rfl, (blk_cell BK154.out 1).trans rfl, (blk_cell BK154.out 2).trans rfl⟩ (fun hHeld => ?_)
            clear hK K
            refine norm_ (a' := ?_) ?_ ?_
            rotate_left
            ·
             show Act.put _ (some 38) _ = _
             simp only [Act.put, List.setIfInBounds_toArray, List.set_cons_zero, List.set_cons_succ, i64_w, i32_w]
             rfl
            refine one_ (i := 8) (N := some 39) AL9 rfl rfl (one_of HT_.out (by kernel_rfl)) (by decide) (fun K hK => ?_)
            refine Kd.R_lit_step k26 _ 26 ?hg (N := 39) ?hd (xs := ([(⟨t175, t176, t177⟩ : S26), (⟨t178, t179, t180⟩ : S26)] : List (S26))) (inner := [.bool t175, .bool t176, .bool t177, .bool t178, .bool t179, .bool t180]) (ok := fun _ => True) (okp := fun _ => True) ?hr ?hp (fun _ hk => hk) trivial (Below.refl _ _) (Nat.le_refl _) (by simp) ?_; (case hd => rfl); (case hg => rfl); (case hr => first | (go_simp; done) | (go_simp; rfl)); (case hp => exact (Reps.c3 (show Kd.M k26 _ _ _ (⟨t175, t176, t177⟩ : S26) [.bool t175, .bool t176, .bool t177] from (k26_mkM _ _ _ (⟨t175, t176, t177⟩ : S26) )) (Reps.c3 (show Kd.M k26 _ _ _ (⟨t178, t179, t180⟩ : S26) [.bool t178, .bool t179, .bool t180] from (k26_mkM _ _ _ (⟨t178, t179, t180⟩ : S26) )) (Reps.none _ _))))
            intro v182 w47 ho48 hb hg_ hnew_
            clear hg_ hnew_
            (first | rw [← Ny181.out] at ho48 | (simp only [Int.reduceToNat] at ho48; rw [← Ny181.out] at ho48))
            have n0_ := Aside0.mk (Kd.R_elder' HO164.out (Kd.R_base ho48) hb)
            have n1_ := Aside0.mk (Kd.R_elder' HO167.out (Kd.R_base ho48) hb)
            have n2_ := Aside0.mk (Kd.R_lower (Kd.R_newB (Kd.R_newB (Kd.R_newB (Kd.R_new' (Kd.R_new' ho48 (Kd.R_lt HO164.out)) (Kd.R_lt HO167.out)) (g := gb153) (o := .cells #[.bool true, .bool true, .bool true] 26 (0, 0)) (by (with_reducible repeat (first | refine blk_drewN ?_ _ | refine blk_drew ?_ | refine blk_alloc ?_ _)); exact BK153.out)) (g := gb154) (o := .cells #[.bool a3_0, .bool a3_1, .bool a3_2] 26 (0, 0)) (by (with_reducible repeat (first | refine blk_drewN ?_ _ | refine blk_drew ?_ | refine blk_alloc ?_ _)); exact BK154.out)) (g := gb171) (o := .cells #[.bool t168, .bool t169, .bool t170] 26 (0, 0)) (by (with_reducible repeat (first | refine blk_drewN ?_ _ | refine blk_drew ?_ | refine blk_alloc ?_ _)); exact BK171.out)) (below_size (by repeat (first | (with_reducible first | exact HB.out | apply below_alloc | apply pw_below_drewN | apply below_drew1 | refine below_set ?_ GE153.out | refine below_set ?_ GE154.out | refine below_set ?_ GE171.out) | exact HB.out))))
            have n3_ := Aside0.mk (blk_below (g := gb153) (o := .cells #[.bool true, .bool true, .bool true] 26 (0, 0)) BK153.out hb)
            have n4_ := Aside0.mk (blk_below (g := gb154) (o := .cells #[.bool a3_0, .bool a3_1, .bool a3_2] 26 (0, 0)) BK154.out hb)
            have n5_ := Aside0.mk (blk_below (g := gb171) (o := .cells #[.bool t168, .bool t169, .bool t170] 26 (0, 0)) BK171.out hb)
            have n6_ := Aside0.mk (below_step (by repeat (first | (with_reducible first | exact HB.out | apply below_alloc | apply pw_below_drewN | apply below_drew1 | refine below_set ?_ GE153.out | refine below_set ?_ GE154.out | refine below_set ?_ GE171.out) | exact HB.out)) hb)
            clear HO164
            clear HO167
            clear BK153
            clear BK154
            clear BK171
            clear HB
            have HO164 := n0_
            have HO167 := n1_
            have HO183 := n2_
            have BK153 := n3_
            have BK154 := n4_
            have BK171 := n5_
            have HB := n6_
            clear n0_ n1_ n2_ n3_ n4_ n5_ n6_
            clear hb ho48
            obtain ⟨Ao49, co49, eo49⟩ := Kd.R_slice HO183.out
            (first | subst eo49 | (injection eo49 with f1_ f2_ f3_; have f4_ := f1_.symm; have f5_ := f3_.symm; clear f1_ f2_ f3_; subst f4_; subst f5_))
            refine hK.out _ _ ⟨(blk_cell BK171.out 0).trans rfl, (blk_cell BK171.out 1).trans rfl, (blk_cell BK171.out 2).trans rfl, (blk_cell BK153.out 0).trans rfl, (blk_cell BK153.out 1).trans rfl, (blk_cell BK153.out 2).trans rfl, (blk_cell BK154.out 0).trans rfl, (blk_cell BK154.out 1).trans rfl, (blk_cell BK154.out 2).trans rfl⟩ (fun hHeld => ?_)
            clear hK K
            refine norm_ (a' := ?_) ?_ ?_
            rotate_left
            ·
             show Act.put _ (some 39) _ = _
             simp only [Act.put, List.setIfInBounds_toArray, List.set_cons_zero, List.set_cons_succ, i64_w, i32_w]
             rfl
            refine one_ (i := 9) (N := some 40) AL10 rfl rfl (one_of HT_.out (by kernel_rfl)) (by decide) (fun K hK => ?_)
            refine goes_ Try.func15 (by kernel_rfl) rfl #[.slice Ao49 y181.length co49] (by rfl) rfl rfl (by (try simp only [List.map_toArray, List.map_cons, List.map_nil]); first | done | rfl | (simp only [List.length_drop, List.length_take]; rfl)) ?_
            with_reducible refine (right_Meet.calls kj5 _ _ y181 t184 t185 t186 _ ?side1 ?side2 A19.out).mono ?_
            (case side1 => repeat (first | exact (Kd.R_reads' HO183.out).2.2 | (with_reducible refine Kd.C_alloc ?_ _) | (with_reducible refine Kd.C_drewN ?_ _) | (with_reducible refine Kd.C_drew ?_)))
            (case side2 => exact (Kd.R_reads' HO183.out).2.1)
            rintro e w50 ⟨rfl, hb⟩
            refine ⟨_, rfl, ?_⟩
            have n0_ := Aside0.mk (Kd.R_below HO164.out hb)
            have n1_ := Aside0.mk (Kd.R_below HO167.out hb)
            have n2_ := Aside0.mk (Kd.R_below HO183.out hb)
            have n3_ := Aside0.mk (blk_below (g := gb153) (o := .cells #[.bool true, .bool true, .bool true] 26 (0, 0)) BK153.out hb)
            have n4_ := Aside0.mk (blk_below (g := gb154) (o := .cells #[.bool a3_0, .bool a3_1, .bool a3_2] 26 (0, 0)) BK154.out hb)
            have n5_ := Aside0.mk (blk_below (g := gb171) (o := .cells #[.bool t168, .bool t169, .bool t170] 26 (0, 0)) BK171.out hb)
            have n6_ := Aside0.mk (below_step (by repeat (first | (with_reducible first | exact HB.out | apply below_alloc | apply pw_below_drewN | apply below_drew1 | refine below_set ?_ GE153.out | refine below_set ?_ GE154.out | refine below_set ?_ GE171.out) | exact HB.out)) hb)
            clear HO164
            clear HO167
            clear HO183
            clear BK153
            clear BK154
            clear BK171
            clear HB
            have HO164 := n0_
            have HO167 := n1_
            have HO183 := n2_
            have BK153 := n3_
            have BK154 := n4_
            have BK171 := n5_
            have HB := n6_
            clear n0_ n1_ n2_ n3_ n4_ n5_ n6_
            (try clear hb)
            (try clear hb2)
            (try clear hk)
            (try clear hi)
            refine hK.out _ _ ⟨(blk_cell BK171.out 0).trans rfl, (blk_cell BK171.out 1).trans rfl, (blk_cell BK171.out 2).trans rfl, (blk_cell BK153.out 0).trans rfl, (blk_cell BK153.out 1).trans rfl, (blk_cell BK153.out 2).trans rfl, (blk_cell BK154.out 0).trans rfl, (blk_cell BK154.out 1).trans rfl, (blk_cell BK154.out 2).trans rfl⟩ (fun hHeld => ?_)
            clear hK K
            refine norm_ (a' := ?_) ?_ ?_
            rotate_left
            ·
             show Act.put _ (some 40) _ = _
             simp only [Act.put, List.setIfInBounds_toArray, List.set_cons_zero, List.set_cons_succ, i64_w, i32_w]
             rfl
            refine pure_ (i := 10) (N := some 41) (v := ?_) (a' := ?_) AL11 rfl rfl (any_of HT_.out (by kernel_rfl)) (fun _ _ _ h => h) (Or.inl ⟨by rfl, ?_⟩) ?_ ?_
            rotate_left
            ·
             intro w'
             go_simp
             with_reducible rfl
            rotate_left
            ·
             simp only [Act.put, List.setIfInBounds_toArray, List.set_cons_zero, List.set_cons_succ, i64_w, i32_w]
             rfl
            refine pure_ (i := 11) (N := some 42) (v := ?_) (a' := ?_) AL12 rfl rfl (any_of HT_.out (by kernel_rfl)) (fun _ _ _ h => h) (Or.inl ⟨by rfl, ?_⟩) ?_ ?_
            rotate_left
            ·
             intro w'
             go_simp
             with_reducible rfl
            rotate_left
            ·
             simp only [Act.put, List.setIfInBounds_toArray, List.set_cons_zero, List.set_cons_succ, i64_w, i32_w]
             rfl
            refine pure_ (i := 12) (N := some 43) (v := ?_) (a' := ?_) AL13 rfl rfl (any_of HT_.out (by kernel_rfl)) (fun _ _ _ h => h) (Or.inl ⟨by rfl, ?_⟩) ?_ ?_
            rotate_left
            ·
             intro w'
             go_simp
             with_reducible rfl
            rotate_left
            ·
             simp only [Act.put, List.setIfInBounds_toArray, List.set_cons_zero, List.set_cons_succ, i64_w, i32_w]
             rfl
            refine pure_ (i := 14) (N := some 45) (v := ?_) (a' := ?_) AL14 rfl rfl (any_of HT_.out (by kernel_rfl)) (fun _ _ _ h => h) (Or.inl ⟨by rfl, ?_⟩) ?_ ?_
            rotate_left
            ·
             intro w'
             go_simp
             with_reducible rfl
            rotate_left
            ·
             simp only [Act.put, List.setIfInBounds_toArray, List.set_cons_zero, List.set_cons_succ, i64_w, i32_w]
             rfl
            refine pure_ (i := 20) (N := some 51) (v := ?_) (a' := ?_) AL15 rfl rfl (any_of HT_.out (by kernel_rfl)) (fun _ _ _ h => h) (Or.inl ⟨by rfl, ?_⟩) ?_ ?_
            rotate_left
            ·
             intro w'
             go_simp
             with_reducible rfl
            rotate_left
            ·
             simp only [Act.put, List.setIfInBounds_toArray, List.set_cons_zero, List.set_cons_succ, i64_w, i32_w]
             rfl
            refine pure_ (i := 26) (N := some 57) (v := ?_) (a' := ?_) AL16 rfl rfl (any_of HT_.out (by kernel_rfl)) (fun _ _ _ h => h) (Or.inl ⟨by rfl, ?_⟩) ?_ ?_
            rotate_left
            ·
             intro w'
             go_simp
             with_reducible rfl
            rotate_left
            ·
             simp only [Act.put, List.setIfInBounds_toArray, List.set_cons_zero, List.set_cons_succ, i64_w, i32_w]
             rfl
            refine take_ (i := 13) (N := some 44) (v := ?_) (a' := ?_) AL17 rfl rfl (take_ofW HT_.out HW_.out (by kernel_rfl)) (fun _ _ _ h => h) (Or.inl ⟨by rfl, ?_⟩) hHeld ?_ ?_
            rotate_left
            ·
             rintro w' ⟨s0, s1, s2, s3, s4, s5, s6, s7, s8⟩
             go_simp
             with_reducible rfl
            rotate_left
            ·
             simp only [Act.put, List.setIfInBounds_toArray, List.set_cons_zero, List.set_cons_succ, i64_w, i32_w]
             rfl
            refine take_ (i := 15) (N := some 46) (v := ?_) (a' := ?_) AL18 rfl rfl (take_ofW HT_.out HW_.out (by kernel_rfl)) (fun _ _ _ h => h) (Or.inl ⟨by rfl, ?_⟩) hHeld ?_ ?_
            rotate_left
            ·
             rintro w' ⟨s0, s1, s2, s3, s4, s5, s6, s7, s8⟩
             go_simp
             with_reducible rfl
            rotate_left
            ·
             simp only [Act.put, List.setIfInBounds_toArray, List.set_cons_zero, List.set_cons_succ, i64_w, i32_w]
             rfl
            refine pure_ (i := 16) (N := some 47) (v := ?_) (a' := ?_) AL19 rfl rfl (any_of HT_.out (by kernel_rfl)) (fun _ _ _ h => h) (Or.inl ⟨by rfl, ?_⟩) ?_ ?_
            rotate_left
            ·
             intro w'
             go_simp
             with_reducible rfl
            rotate_left
            ·
             simp only [Act.put, List.setIfInBounds_toArray, List.set_cons_zero, List.set_cons_succ, i64_w, i32_w]
             rfl
            refine pure_ (i := 17) (N := some 48) (v := ?_) (a' := ?_) AL20 rfl rfl (any_of HT_.out (by kernel_rfl)) (fun _ _ _ h => h) (Or.inl ⟨by rfl, ?_⟩) ?_ ?_
            rotate_left
            ·
             intro w'
             go_simp
             with_reducible rfl
            rotate_left
            ·
             simp only [Act.put, List.setIfInBounds_toArray, List.set_cons_zero, List.set_cons_succ, i64_w, i32_w]
             rfl
            refine take_ (i := 18) (N := some 49) (v := ?_) (a' := ?_) AL21 rfl rfl (take_ofW HT_.out HW_.out (by kernel_rfl)) (fun _ _ _ h => h) (Or.inl ⟨by rfl, ?_⟩) hHeld ?_ ?_
            rotate_left
            ·
             rintro w' ⟨s0, s1, s2, s3, s4, s5, s6, s7, s8⟩
             go_simp
             with_reducible rfl
            rotate_left
            ·
             simp only [Act.put, List.setIfInBounds_toArray, List.set_cons_zero, List.set_cons_succ, i64_w, i32_w]
             rfl
            refine pure_ (i := 19) (N := some 50) (v := ?_) (a' := ?_) AL22 rfl rfl (any_of HT_.out (by kernel_rfl)) (fun _ _ _ h => h) (Or.inl ⟨by rfl, ?_⟩) ?_ ?_
            rotate_left
            ·
             intro w'
             go_simp
             with_reducible rfl
            rotate_left
            ·
             simp only [Act.put, List.setIfInBounds_toArray, List.set_cons_zero, List.set_cons_succ, i64_w, i32_w]
             rfl
            refine take_ (i := 21) (N := some 52) (v := ?_) (a' := ?_) AL23 rfl rfl (take_ofW HT_.out HW_.out (by kernel_rfl)) (fun _ _ _ h => h) (Or.inl ⟨by rfl, ?_⟩) hHeld ?_ ?_
            rotate_left
            ·
             rintro w' ⟨s0, s1, s2, s3, s4, s5, s6, s7, s8⟩
             go_simp
             with_reducible rfl
            rotate_left
            ·
             simp only [Act.put, List.setIfInBounds_toArray, List.set_cons_zero, List.set_cons_succ, i64_w, i32_w]
             rfl
            refine pure_ (i := 22) (N := some 53) (v := ?_) (a' := ?_) AL24 rfl rfl (any_of HT_.out (by kernel_rfl)) (fun _ _ _ h => h) (Or.inl ⟨by rfl, ?_⟩) ?_ ?_
            rotate_left
            ·
             intro w'
             go_simp
             with_reducible rfl
            rotate_left
            ·
             simp only [Act.put, List.setIfInBounds_toArray, List.set_cons_zero, List.set_cons_succ, i64_w, i32_w]
             rfl
            refine pure_ (i := 23) (N := some 54) (v := ?_) (a' := ?_) AL25 rfl rfl (any_of HT_.out (by kernel_rfl)) (fun _ _ _ h => h) (Or.inl ⟨by rfl, ?_⟩) ?_ ?_
            rotate_left
            ·
             intro w'
             go_simp
             with_reducible rfl
            rotate_left
            ·
             simp only [Act.put, List.setIfInBounds_toArray, List.set_cons_zero, List.set_cons_succ, i64_w, i32_w]
             rfl
            refine take_ (i := 24) (N := some 55) (v := ?_) (a' := ?_) AL26 rfl rfl (take_ofW HT_.out HW_.out (by kernel_rfl)) (fun _ _ _ h => h) (Or.inl ⟨by rfl, ?_⟩) hHeld ?_ ?_
            rotate_left
            ·
             rintro w' ⟨s0, s1, s2, s3, s4, s5, s6, s7, s8⟩
             go_simp
             with_reducible rfl
            rotate_left
            ·
             simp only [Act.put, List.setIfInBounds_toArray, List.set_cons_zero, List.set_cons_succ, i64_w, i32_w]
             rfl
            refine pure_ (i := 25) (N := some 56) (v := ?_) (a' := ?_) AL27 rfl rfl (any_of HT_.out (by kernel_rfl)) (fun _ _ _ h => h) (Or.inl ⟨by rfl, ?_⟩) ?_ ?_
            rotate_left
            ·
             intro w'
             go_simp
             with_reducible rfl
            rotate_left
            ·
             simp only [Act.put, List.setIfInBounds_toArray, List.set_cons_zero, List.set_cons_succ, i64_w, i32_w]
             rfl
            refine take_ (i := 27) (N := some 58) (v := ?_) (a' := ?_) AL28 rfl rfl (take_ofW HT_.out HW_.out (by kernel_rfl)) (fun _ _ _ h => h) (Or.inl ⟨by rfl, ?_⟩) hHeld ?_ ?_
            rotate_left
            ·
             rintro w' ⟨s0, s1, s2, s3, s4, s5, s6, s7, s8⟩
             go_simp
             with_reducible rfl
            rotate_left
            ·
             simp only [Act.put, List.setIfInBounds_toArray, List.set_cons_zero, List.set_cons_succ, i64_w, i32_w]
             rfl
            refine pure_ (i := 28) (N := some 59) (v := ?_) (a' := ?_) AL29 rfl rfl (any_of HT_.out (by kernel_rfl)) (fun _ _ _ h => h) (Or.inl ⟨by rfl, ?_⟩) ?_ ?_
            rotate_left
            ·
             intro w'
             go_simp
             with_reducible rfl
            rotate_left
            ·
             simp only [Act.put, List.setIfInBounds_toArray, List.set_cons_zero, List.set_cons_succ, i64_w, i32_w]
             rfl
            refine pure_ (i := 29) (N := some 60) (v := ?_) (a' := ?_) AL30 rfl rfl (any_of HT_.out (by kernel_rfl)) (fun _ _ _ h => h) (Or.inl ⟨by rfl, ?_⟩) ?_ ?_
            rotate_left
            ·
             intro w'
             go_simp
             with_reducible rfl
            rotate_left
            ·
             simp only [Act.put, List.setIfInBounds_toArray, List.set_cons_zero, List.set_cons_succ, i64_w, i32_w]
             rfl
            refine take_ (i := 30) (N := some 61) (v := ?_) (a' := ?_) AL31 rfl rfl (take_ofW HT_.out HW_.out (by kernel_rfl)) (fun _ _ _ h => h) (Or.inl ⟨by rfl, ?_⟩) hHeld ?_ ?_
            rotate_left
            ·
             rintro w' ⟨s0, s1, s2, s3, s4, s5, s6, s7, s8⟩
             go_simp
             with_reducible rfl
            rotate_left
            ·
             simp only [Act.put, List.setIfInBounds_toArray, List.set_cons_zero, List.set_cons_succ, i64_w, i32_w]
             rfl
            refine pure_ (i := 31) (N := some 62) (v := ?_) (a' := ?_) AL32 rfl rfl (any_of HT_.out (by kernel_rfl)) (fun _ _ _ h => h) (Or.inl ⟨by rfl, ?_⟩) ?_ ?_
            rotate_left
            ·
             intro w'
             go_simp
             with_reducible rfl
            rotate_left
            ·
             simp only [Act.put, List.setIfInBounds_toArray, List.set_cons_zero, List.set_cons_succ, i64_w, i32_w]
             rfl
            refine pure_ (i := 32) (N := some 63) (v := ?_) (a' := ?_) AL33 rfl rfl (any_of HT_.out (by kernel_rfl)) (fun _ _ _ h => h) (Or.inl ⟨by rfl, ?_⟩) ?_ ?_
            rotate_left
            ·
             intro w'
             go_simp
             with_reducible rfl
            rotate_left
            ·
             simp only [Act.put, List.setIfInBounds_toArray, List.set_cons_zero, List.set_cons_succ, i64_w, i32_w]
             rfl
            refine pure_ (i := 33) (N := some 64) (v := ?_) (a' := ?_) AL34 rfl rfl (any_of HT_.out (by kernel_rfl)) (fun _ _ _ h => h) (Or.inl ⟨by rfl, ?_⟩) ?_ ?_
            rotate_left
            ·
             intro w'
             go_simp
             with_reducible rfl
            rotate_left
            ·
             simp only [Act.put, List.setIfInBounds_toArray, List.set_cons_zero, List.set_cons_succ, i64_w, i32_w]
             rfl
            refine pure_ (i := 34) (N := some 65) (v := ?_) (a' := ?_) AL35 rfl rfl (any_of HT_.out (by kernel_rfl)) (fun _ _ _ h => h) (Or.inl ⟨by rfl, ?_⟩) ?_ ?_
            rotate_left
            ·
             intro w'
             go_simp
             with_reducible rfl
            rotate_left
            ·
             simp only [Act.put, List.setIfInBounds_toArray, List.set_cons_zero, List.set_cons_succ, i64_w, i32_w]
             rfl
            refine pure_ (i := 35) (N := some 66) (v := ?_) (a' := ?_) AL36 rfl rfl (any_of HT_.out (by kernel_rfl)) (fun _ _ _ h => h) (Or.inl ⟨by rfl, ?_⟩) ?_ ?_
            rotate_left
            ·
             intro w'
             go_simp
             with_reducible rfl
            rotate_left
            ·
             simp only [Act.put, List.setIfInBounds_toArray, List.set_cons_zero, List.set_cons_succ, i64_w, i32_w]
             rfl
            refine take_ (i := 36) (N := some 67) (v := ?_) (a' := ?_) AL37 rfl rfl (take_ofW HT_.out HW_.out (by kernel_rfl)) (fun _ _ _ h => h) (Or.inl ⟨by rfl, ?_⟩) hHeld ?_ ?_
            rotate_left
            ·
             rintro w' ⟨s0, s1, s2, s3, s4, s5, s6, s7, s8⟩
             go_simp
             with_reducible rfl
            rotate_left
            ·
             simp only [Act.put, List.setIfInBounds_toArray, List.set_cons_zero, List.set_cons_succ, i64_w, i32_w]
             rfl
            refine take_ (i := 39) (N := some 70) (v := ?_) (a' := ?_) AL38 rfl rfl (take_ofW HT_.out HW_.out (by kernel_rfl)) (fun _ _ _ h => h) (Or.inl ⟨by rfl, ?_⟩) hHeld ?_ ?_
            rotate_left
            ·
             rintro w' ⟨s0, s1, s2, s3, s4, s5, s6, s7, s8⟩
             go_simp
             with_reducible rfl
            rotate_left
            ·
             simp only [Act.put, List.setIfInBounds_toArray, List.set_cons_zero, List.set_cons_succ, i64_w, i32_w]
             rfl
            refine one_ (i := 37) (N := some 68) AL39 rfl rfl (one_of HT_.out (by kernel_rfl)) (by decide) (fun K hK => ?_)
            refine Kd.R_lit_step k26 _ 26 ?hg (N := 68) ?hd (xs := ([(⟨true, true, true⟩ : S26)] : List (S26))) (inner := [.bool true, .bool true, .bool true]) (ok := fun _ => True) (okp := fun _ => True) ?hr ?hp (fun _ hk => hk) trivial (Below.refl _ _) (Nat.le_refl _) (by simp) ?_; (case hd => rfl); (case hg => rfl); (case hr => first | (go_simp; done) | (go_simp; rfl)); (case hp => exact (Reps.c3 (show Kd.M k26 _ _ _ (⟨true, true, true⟩ : S26) [.bool true, .bool true, .bool true] from (k26_mkM _ _ _ (⟨true, true, true⟩ : S26) )) (Reps.none _ _)))
            intro v188 w51 ho52 hb hg_ hnew_
            clear hg_ hnew_
            (first | rw [← Ny187.out] at ho52 | (simp only [Int.reduceToNat] at ho52; rw [← Ny187.out] at ho52))
            have n0_ := Aside0.mk (Kd.R_elder' HO164.out (Kd.R_base ho52) hb)
            have n1_ := Aside0.mk (Kd.R_elder' HO167.out (Kd.R_base ho52) hb)
            have n2_ := Aside0.mk (Kd.R_elder' HO183.out (Kd.R_base ho52) hb)
            have n3_ := Aside0.mk (Kd.R_lower (Kd.R_newB (Kd.R_newB (Kd.R_newB (Kd.R_new' (Kd.R_new' (Kd.R_new' ho52 (Kd.R_lt HO164.out)) (Kd.R_lt HO167.out)) (Kd.R_lt HO183.out)) (g := gb153) (o := .cells #[.bool true, .bool true, .bool true] 26 (0, 0)) (by (with_reducible repeat (first | refine blk_drewN ?_ _ | refine blk_drew ?_ | refine blk_alloc ?_ _)); exact BK153.out)) (g := gb154) (o := .cells #[.bool a3_0, .bool a3_1, .bool a3_2] 26 (0, 0)) (by (with_reducible repeat (first | refine blk_drewN ?_ _ | refine blk_drew ?_ | refine blk_alloc ?_ _)); exact BK154.out)) (g := gb171) (o := .cells #[.bool t168, .bool t169, .bool t170] 26 (0, 0)) (by (with_reducible repeat (first | refine blk_drewN ?_ _ | refine blk_drew ?_ | refine blk_alloc ?_ _)); exact BK171.out)) (below_size (by repeat (first | (with_reducible first | exact HB.out | apply below_alloc | apply pw_below_drewN | apply below_drew1 | refine below_set ?_ GE153.out | refine below_set ?_ GE154.out | refine below_set ?_ GE171.out) | exact HB.out))))
            have n4_ := Aside0.mk (blk_below (g := gb153) (o := .cells #[.bool true, .bool true, .bool true] 26 (0, 0)) BK153.out hb)
            have n5_ := Aside0.mk (blk_below (g := gb154) (o := .cells #[.bool a3_0, .bool a3_1, .bool a3_2] 26 (0, 0)) BK154.out hb)
            have n6_ := Aside0.mk (blk_below (g := gb171) (o := .cells #[.bool t168, .bool t169, .bool t170] 26 (0, 0)) BK171.out hb)
            have n7_ := Aside0.mk (below_step (by repeat (first | (with_reducible first | exact HB.out | apply below_alloc | apply pw_below_drewN | apply below_drew1 | refine below_set ?_ GE153.out | refine below_set ?_ GE154.out | refine below_set ?_ GE171.out) | exact HB.out)) hb)
            clear HO164
            clear HO167
            clear HO183
            clear BK153
            clear BK154
            clear BK171
            clear HB
            have HO164 := n0_
            have HO167 := n1_
            have HO183 := n2_
            have HO189 := n3_
            have BK153 := n4_
            have BK154 := n5_
            have BK171 := n6_
            have HB := n7_
            clear n0_ n1_ n2_ n3_ n4_ n5_ n6_ n7_
            clear hb ho52
            obtain ⟨Ao53, co53, eo53⟩ := Kd.R_slice HO189.out
            (first | subst eo53 | (injection eo53 with f1_ f2_ f3_; have f4_ := f1_.symm; have f5_ := f3_.symm; clear f1_ f2_ f3_; subst f4_; subst f5_))
            refine hK.out _ _ ⟨(blk_cell BK171.out 0).trans rfl, (blk_cell BK171.out 1).trans rfl, (blk_cell BK171.out 2).trans rfl, (blk_cell BK153.out 0).trans rfl, (blk_cell BK153.out 1).trans rfl, (blk_cell BK153.out 2).trans rfl, (blk_cell BK154.out 0).trans rfl, (blk_cell BK154.out 1).trans rfl, (blk_cell BK154.out 2).trans rfl⟩ (fun hHeld => ?_)
            clear hK K
            refine norm_ (a' := ?_) ?_ ?_
            rotate_left
            ·
             show Act.put _ (some 68) _ = _
             simp only [Act.put, List.setIfInBounds_toArray, List.set_cons_zero, List.set_cons_succ, i64_w, i32_w]
             rfl
            refine one_ (i := 38) (N := some 69) AL40 rfl rfl (one_of HT_.out (by kernel_rfl)) (by decide) (fun K hK => ?_)
            refine goes_ Try.func15 (by kernel_rfl) rfl #[.slice Ao53 y187.length co53] (by rfl) rfl rfl (by (try simp only [List.map_toArray, List.map_cons, List.map_nil]); first | done | rfl | (simp only [List.length_drop, List.length_take]; rfl)) ?_
            with_reducible refine (right_Meet.calls kj5 _ _ y187 t190 t191 t192 _ ?side1 ?side2 A25.out).mono ?_
            (case side1 => repeat (first | exact (Kd.R_reads' HO189.out).2.2 | (with_reducible refine Kd.C_alloc ?_ _) | (with_reducible refine Kd.C_drewN ?_ _) | (with_reducible refine Kd.C_drew ?_)))
            (case side2 => exact (Kd.R_reads' HO189.out).2.1)
            rintro e w54 ⟨rfl, hb⟩
            refine ⟨_, rfl, ?_⟩
            have n0_ := Aside0.mk (Kd.R_below HO164.out hb)
            have n1_ := Aside0.mk (Kd.R_below HO167.out hb)
            have n2_ := Aside0.mk (Kd.R_below HO183.out hb)
            have n3_ := Aside0.mk (Kd.R_below HO189.out hb)
            have n4_ := Aside0.mk (blk_below (g := gb153) (o := .cells #[.bool true, .bool true, .bool true] 26 (0, 0)) BK153.out hb)
            have n5_ := Aside0.mk (blk_below (g := gb154) (o := .cells #[.bool a3_0, .bool a3_1, .bool a3_2] 26 (0, 0)) BK154.out hb)
            have n6_ := Aside0.mk (blk_below (g := gb171) (o := .cells #[.bool t168, .bool t169, .bool t170] 26 (0, 0)) BK171.out hb)
            have n7_ := Aside0.mk (below_step (by repeat (first | (with_reducible first | exact HB.out | apply below_alloc | apply pw_below_drewN | apply below_drew1 | refine below_set ?_ GE153.out | refine below_set ?_ GE154.out | refine below_set ?_ GE171.out) | exact HB.out)) hb)
            clear HO164
            clear HO167
            clear HO183
            clear HO189
            clear BK153
            clear BK154
            clear BK171
            clear HB
            have HO164 := n0_
            have HO167 := n1_
            have HO183 := n2_
            have HO189 := n3_
            have BK153 := n4_
            have BK154 := n5_
            have BK171 := n6_
            have HB := n7_
            clear n0_ n1_ n2_ n3_ n4_ n5_ n6_ n7_
            (try clear hb)
            (try clear hb2)
            (try clear hk)
            (try clear hi)
            refine hK.out _ _ ⟨(blk_cell BK171.out 0).trans rfl, (blk_cell BK171.out 1).trans rfl, (blk_cell BK171.out 2).trans rfl, (blk_cell BK153.out 0).trans rfl, (blk_cell BK153.out 1).trans rfl, (blk_cell BK153.out 2).trans rfl, (blk_cell BK154.out 0).trans rfl, (blk_cell BK154.out 1).trans rfl, (blk_cell BK154.out 2).trans rfl⟩ (fun hHeld => ?_)
            clear hK K
            refine norm_ (a' := ?_) ?_ ?_
            rotate_left
            ·
             show Act.put _ (some 69) _ = _
             simp only [Act.put, List.setIfInBounds_toArray, List.set_cons_zero, List.set_cons_succ, i64_w, i32_w]
             rfl
            refine pure_ (i := 40) (N := some 71) (v := ?_) (a' := ?_) AL41 rfl rfl (any_of HT_.out (by kernel_rfl)) (fun _ _ _ h => h) (Or.inl ⟨by rfl, ?_⟩) ?_ ?_
            rotate_left
            ·
             intro w'
             go_simp
             with_reducible rfl
            rotate_left
            ·
             simp only [Act.put, List.setIfInBounds_toArray, List.set_cons_zero, List.set_cons_succ, i64_w, i32_w]
             rfl
            refine pure_ (i := 41) (N := some 72) (v := ?_) (a' := ?_) AL42 rfl rfl (any_of HT_.out (by kernel_rfl)) (fun _ _ _ h => h) (Or.inl ⟨by rfl, ?_⟩) ?_ ?_
            rotate_left
            ·
             intro w'
             go_simp
             with_reducible rfl
            rotate_left
            ·
             simp only [Act.put, List.setIfInBounds_toArray, List.set_cons_zero, List.set_cons_succ, i64_w, i32_w]
             rfl
            refine pure_ (i := 42) (N := some 8) (v := ?_) (a' := ?_) AL43 rfl rfl (any_of HT_.out (by kernel_rfl)) (fun _ _ _ h => h) (Or.inl ⟨by rfl, ?_⟩) ?_ ?_
            rotate_left
            ·
             intro w'
             go_simp
             with_reducible rfl
            rotate_left
            ·
             simp only [Act.put, List.setIfInBounds_toArray, List.set_cons_zero, List.set_cons_succ, i64_w, i32_w]
             rfl
            refine done_ (done_of HT_.out (by kernel_rfl)) ?_
            try go_wp2
            go_ret
            exact ⟨by first | rfl | (simp [errW_none, errW_some] <;> rfl) | (simp [*, errW_none, errW_some] <;> rfl), by repeat (first | (with_reducible first | exact HB.out | apply below_alloc | apply pw_below_drewN | apply below_drew1 | refine below_set ?_ GE153.out | refine below_set ?_ GE154.out | refine below_set ?_ GE171.out) | exact HB.out)⟩
           ·
            rw [if_neg c24] at H
            have c24b0 : (t168 == a3_0 && (t169 == a3_1 && (t170 == a3_2))) = false := by simpa using c24
            (try (have c24b1 : decide (t168 = a3_0 && (t169 == a3_1 && (t170 == a3_2))) = false := by simpa using c24))
            (try (have c24b2 : (t168 == a3_0 && (t169 == a3_1 && (t170 == a3_2))) = false := by simpa using c24))
            (try (have c24b3 : ¬ (t168 = a3_0 && (t169 == a3_1 && (t170 == a3_2))) := by simpa using c24))
            clear c24
            obtain rfl := Option.some.inj H
            exact absurd hr (by decide)
          ·
           replace c23 := Bool.eq_false_iff.mpr c23
           subst c23
           have H1 : (if (t168 == a3_0 && (t169 == a3_1 && (!t170))) = true then ((right_Meet.f kj5 (([(⟨true, true, false⟩ : S26)] : List (S26)))).bind fun bt196 => (some (bt196.1 == true && (bt196.2.1 == true && (bt196.2.2 == false))))) else (some false)) = some r := by rw [if_neg (show ¬ (false = true) by decide)] at H; exact H
           clear H
           have H := H1
           clear H1
           by_cases c80 : (t168 == a3_0 && (t169 == a3_1 && (!t170))) = true
           ·
            rw [if_pos c80] at H
            have c80b0 : (t168 == a3_0 && (t169 == a3_1 && (!t170))) = true := c80
            (try (have c80b1 : decide (t168 = a3_0 && (t169 == a3_1 && (!t170))) = true := by simpa using c80))
            (try (have c80b2 : (t168 == a3_0 && (t169 == a3_1 && (!t170))) = true := by simpa using c80))
            clear c80
            obtain ⟨y193, hy193⟩ : ∃ y_ : List (S26), y_ = (([(⟨true, true, false⟩ : S26)] : List (S26))) := ⟨_, rfl⟩
            replace H : ((right_Meet.f kj5 y193).bind fun bt196 => (some (bt196.1 == true && (bt196.2.1 == true && (bt196.2.2 == false))))) = some r := by first | (rw [hy193]; with_reducible exact H) | (have H2_ := (Option.bind_some _ _).symm.trans H; rw [hy193]; with_reducible exact H2_) | (have H2_ := (Option.bind_some _ _).symm.trans H; with_reducible exact H2_) | with_reducible exact H | (rw [hy193]; exact H) | exact H
            have Ny193 := Aside0.mk hy193
            clear hy193
            replace H := Option.bind_eq_some_iff.mp H
            obtain ⟨⟨t196, t197, t198⟩, A810, H⟩ := H
            replace H : (some (t196 == true && (t197 == true && (t198 == false)))) = some r := H
            have A81 := Aside0.mk A810
            clear A810
            obtain rfl := Option.some.inj H
            try go_wp2_with (first | ((with_reducible refine gate_dst (N := 22) rfl ?_); (try (refine gate_guard (by rfl) ?_; dsimp only)); refine Kd.R_lit k26 _ 26 ?hg (N := 22) ?hd (xs := ([] : List (S26))) (inner := []) (ok := fun _ => True) (okp := fun _ => True) ?hr ?hp (fun _ hk => hk) trivial (Below.refl _ _) (Nat.le_refl _) (by simp) ?_; (case hd => rfl); (case hg => rfl); (case hr => first | (go_simp; done) | (go_simp; rfl)); (case hp => exact (Reps.none _ _)); intro v157 w82 ho83 hb hg_ hnew_; clear hg_ hnew_; (first | rw [← Ny156.out] at ho83 | (simp only [Int.reduceToNat] at ho83; rw [← Ny156.out] at ho83)); have n0_ := Aside0.mk (Kd.R_lower (Kd.R_newB (Kd.R_newB ho83 (g := gb153) (o := .cells #[.bool true, .bool true, .bool false] 26 (0, 0)) (by (with_reducible repeat (first | refine blk_drewN ?_ _ | refine blk_drew ?_ | refine blk_alloc ?_ _)); exact BK153.out)) (g := gb154) (o := .cells #[.bool a3_0, .bool a3_1, .bool a3_2] 26 (0, 0)) (by (with_reducible repeat (first | refine blk_drewN ?_ _ | refine blk_drew ?_ | refine blk_alloc ?_ _)); exact BK154.out)) (below_size (by repeat (first | (with_reducible first | exact HB.out | apply below_alloc | apply pw_below_drewN | apply below_drew1 | refine below_set ?_ GE153.out | refine below_set ?_ GE154.out) | exact HB.out)))); have n1_ := Aside0.mk (blk_below (g := gb153) (o := .cells #[.bool true, .bool true, .bool false] 26 (0, 0)) BK153.out hb); have n2_ := Aside0.mk (blk_below (g := gb154) (o := .cells #[.bool a3_0, .bool a3_1, .bool a3_2] 26 (0, 0)) BK154.out hb); have n3_ := Aside0.mk (below_step (by repeat (first | (with_reducible first | exact HB.out | apply below_alloc | apply pw_below_drewN | apply below_drew1 | refine below_set ?_ GE153.out | refine below_set ?_ GE154.out) | exact HB.out)) hb); clear BK153; clear BK154; clear HB; have HO158 := n0_; have BK153 := n1_; have BK154 := n2_; have HB := n3_; clear n0_ n1_ n2_ n3_; clear hb ho83) | ((with_reducible refine gate_builtin (b := .append) (xs := #[.tmp 22, .tmp 23]) rfl ?_); (try (refine gate_guard (by rfl) ?_; dsimp only)); at_builtin; refine Kd.R_append_rows k26 (w0 := w) w.heap.size rfl (.tmp 22) (.tmp 23) 24 26 (.agg #[(.bool false), (.bool false), (.bool false)]) 3 rfl Try.underlying24 info26 rfl (by decide) (by omega) v157 y156 l0 _ _ _ (fun k_ => k_ ≠ gb153 ∧ k_ ≠ gb154) (fun _ => False) rfl rfl ?aO ?aR (fun _ _ h => h) (fun _ h => h.elim) ?aF ?aB ?aS ?aL ?_; (case aR => repeat (first | exact (Kd.C_below HR0.out HB.out) | (with_reducible refine Kd.C_alloc ?_ _) | (with_reducible refine Kd.C_drewN ?_ _) | (with_reducible refine Kd.C_drew ?_))); (case aB => exact (by repeat (first | (with_reducible first | exact HB.out | apply below_alloc | apply pw_below_drewN | apply below_drew1 | refine below_set ?_ GE153.out | refine below_set ?_ GE154.out) | exact HB.out))); (case aF => exact (fun k_ hk => ⟨Kd.freshB (g := gb153) (o := .cells #[.bool true, .bool true, .bool false] 26 (0, 0)) (by (with_reducible repeat (first | refine blk_drewN ?_ _ | refine blk_drew ?_ | refine blk_alloc ?_ _)); exact BK153.out) k_ hk, Kd.freshB (g := gb154) (o := .cells #[.bool a3_0, .bool a3_1, .bool a3_2] 26 (0, 0)) (by (with_reducible repeat (first | refine blk_drewN ?_ _ | refine blk_drew ?_ | refine blk_alloc ?_ _)); exact BK154.out) k_ hk⟩)); (case aO => exact (by (with_reducible repeat (first | apply Kd.R_alloc | apply Kd.R_drewN | apply Kd.R_drew)); exact Kd.R_mono HO158.out (fun _ hk => ⟨hk.1.2, hk.2⟩))); (case aS => exact (below_size (by repeat (first | (with_reducible first | exact HB.out | apply below_alloc | apply pw_below_drewN | apply below_drew1 | refine below_set ?_ GE153.out | refine below_set ?_ GE154.out) | exact HB.out)))); (case aL => have := LMc12.out; omega); intro v160 w84 ho hb hg hat; rw [← Ny159.out] at ho; have n0_ := Aside0.mk (blk_grown (g := gb153) (o := .cells #[.bool true, .bool true, .bool false] 26 (0, 0)) (by (with_reducible repeat (first | refine blk_drewN ?_ _ | refine blk_drew ?_ | refine blk_alloc ?_ _)); exact BK153.out) hg (Kd.R_away HO158.out (fun _ hk => hk.1.2))); have n1_ := Aside0.mk (blk_grown (g := gb154) (o := .cells #[.bool a3_0, .bool a3_1, .bool a3_2] 26 (0, 0)) (by (with_reducible repeat (first | refine blk_drewN ?_ _ | refine blk_drew ?_ | refine blk_alloc ?_ _)); exact BK154.out) hg (Kd.R_away HO158.out (fun _ hk => hk.2))); have n2_ := Aside0.mk (hb); have n3_ := Aside0.mk (ho); clear BK153; clear BK154; clear HB; clear HO158; have BK153 := n0_; have BK154 := n1_; have HB := n2_; have HO161 := n3_; clear n0_ n1_ n2_ n3_; clear ho hb hg hat) | ((with_reducible refine gate_builtin (b := .append) (xs := #[.tmp 24, .tmp 25]) rfl ?_); (try (refine gate_guard (by rfl) ?_; dsimp only)); at_builtin; refine Kd.R_append_rows k26 (w0 := w) w.heap.size rfl (.tmp 24) (.tmp 25) 24 26 (.agg #[(.bool false), (.bool false), (.bool false)]) 3 rfl Try.underlying24 info26 rfl (by decide) (by omega) v160 y159 l1 _ _ _ (fun k_ => k_ ≠ gb153 ∧ k_ ≠ gb154) (fun _ => False) rfl rfl ?aO ?aR (fun _ _ h => h) (fun _ h => h.elim) ?aF ?aB ?aS ?aL ?_; (case aR => repeat (first | exact (Kd.C_below HR1.out HB.out) | (with_reducible refine Kd.C_alloc ?_ _) | (with_reducible refine Kd.C_drewN ?_ _) | (with_reducible refine Kd.C_drew ?_))); (case aB => exact (by repeat (first | (with_reducible first | exact HB.out | apply below_alloc | apply pw_below_drewN | apply below_drew1 | refine below_set ?_ GE153.out | refine below_set ?_ GE154.out) | exact HB.out))); (case aF => exact (fun k_ hk => ⟨Kd.freshB (g := gb153) (o := .cells #[.bool true, .bool true, .bool false] 26 (0, 0)) (by (with_reducible repeat (first | refine blk_drewN ?_ _ | refine blk_drew ?_ | refine blk_alloc ?_ _)); exact BK153.out) k_ hk, Kd.freshB (g := gb154) (o := .cells #[.bool a3_0, .bool a3_1, .bool a3_2] 26 (0, 0)) (by (with_reducible repeat (first | refine blk_drewN ?_ _ | refine blk_drew ?_ | refine blk_alloc ?_ _)); exact BK154.out) k_ hk⟩)); (case aO => exact HO161.out); (case aS => exact (below_size (by repeat (first | (with_reducible first | exact HB.out | apply below_alloc | apply pw_below_drewN | apply below_drew1 | refine below_set ?_ GE153.out | refine below_set ?_ GE154.out) | exact HB.out)))); (case aL => have := LMc13.out; omega); intro v163 w85 ho hb hg hat; rw [← Ny162.out] at ho; have n0_ := Aside0.mk (blk_grown (g := gb153) (o := .cells #[.bool true, .bool true, .bool false] 26 (0, 0)) (by (with_reducible repeat (first | refine blk_drewN ?_ _ | refine blk_drew ?_ | refine blk_alloc ?_ _)); exact BK153.out) hg (Kd.R_away HO161.out (fun _ hk => hk.1))); have n1_ := Aside0.mk (blk_grown (g := gb154) (o := .cells #[.bool a3_0, .bool a3_1, .bool a3_2] 26 (0, 0)) (by (with_reducible repeat (first | refine blk_drewN ?_ _ | refine blk_drew ?_ | refine blk_alloc ?_ _)); exact BK154.out) hg (Kd.R_away HO161.out (fun _ hk => hk.2))); have n2_ := Aside0.mk (hb); have n3_ := Aside0.mk (ho); clear BK153; clear BK154; clear HB; clear HO161; have BK153 := n0_; have BK154 := n1_; have HB := n2_; have HO164 := n3_; clear n0_ n1_ n2_ n3_; clear ho hb hg hat; have hnb86 := NB153_154.out; have hnc86 := NB154_153.out; have hcz87_0 : w85.cell? ⟨gb153, 0, none⟩ = some (.bool true) := (blk_cell BK153.out 0).trans rfl; have hcz87_1 : w85.cell? ⟨gb153, 1, none⟩ = some (.bool true) := (blk_cell BK153.out 1).trans rfl; have hcz87_2 : w85.cell? ⟨gb153, 2, none⟩ = some (.bool false) := (blk_cell BK153.out 2).trans rfl; have hfz87_0 := blk_frozen BK153.out 0; have hfz87_1 := blk_frozen BK153.out 1; have hfz87_2 := blk_frozen BK153.out 2; have hcz88_0 : w85.cell? ⟨gb154, 0, none⟩ = some (.bool a3_0) := (blk_cell BK154.out 0).trans rfl; have hcz88_1 : w85.cell? ⟨gb154, 1, none⟩ = some (.bool a3_1) := (blk_cell BK154.out 1).trans rfl; have hcz88_2 : w85.cell? ⟨gb154, 2, none⟩ = some (.bool a3_2) := (blk_cell BK154.out 2).trans rfl; have hfz88_0 := blk_frozen BK154.out 0; have hfz88_1 := blk_frozen BK154.out 1; have hfz88_2 := blk_frozen BK154.out 2) | ((with_reducible refine gate_dst (N := 29) rfl ?_); (try (refine gate_guard (by rfl) ?_; dsimp only)); refine Kd.R_lit k26 _ 26 ?hg (N := 29) ?hd (xs := ([(⟨true, true, false⟩ : S26), (⟨a3_0, a3_1, a3_2⟩ : S26)] : List (S26))) (inner := [.bool true, .bool true, .bool false, .bool a3_0, .bool a3_1, .bool a3_2]) (ok := fun _ => True) (okp := fun _ => True) ?hr ?hp (fun _ hk => hk) trivial (Below.refl _ _) (Nat.le_refl _) (by simp) ?_; (case hd => rfl); (case hg => rfl); (case hr => first | (go_simp; done) | (go_simp; rfl)); (case hp => exact (Reps.c3 (show Kd.M k26 _ _ _ (⟨true, true, false⟩ : S26) [.bool true, .bool true, .bool false] from (k26_mkM _ _ _ (⟨true, true, false⟩ : S26) )) (Reps.c3 (show Kd.M k26 _ _ _ (⟨a3_0, a3_1, a3_2⟩ : S26) [.bool a3_0, .bool a3_1, .bool a3_2] from (k26_mkM _ _ _ (⟨a3_0, a3_1, a3_2⟩ : S26) )) (Reps.none _ _)))); intro v166 w89 ho90 hb hg_ hnew_; clear hg_ hnew_; (first | rw [← Ny165.out] at ho90 | (simp only [Int.reduceToNat] at ho90; rw [← Ny165.out] at ho90)); have n0_ := Aside0.mk (Kd.R_elder' HO164.out (Kd.R_base ho90) hb); have n1_ := Aside0.mk (Kd.R_lower (Kd.R_newB (Kd.R_newB (Kd.R_new' ho90 (Kd.R_lt HO164.out)) (g := gb153) (o := .cells #[.bool true, .bool true, .bool false] 26 (0, 0)) (by (with_reducible repeat (first | refine blk_drewN ?_ _ | refine blk_drew ?_ | refine blk_alloc ?_ _)); exact BK153.out)) (g := gb154) (o := .cells #[.bool a3_0, .bool a3_1, .bool a3_2] 26 (0, 0)) (by (with_reducible repeat (first | refine blk_drewN ?_ _ | refine blk_drew ?_ | refine blk_alloc ?_ _)); exact BK154.out)) (below_size (by repeat (first | (with_reducible first | exact HB.out | apply below_alloc | apply pw_below_drewN | apply below_drew1 | refine below_set ?_ GE153.out | refine below_set ?_ GE154.out) | exact HB.out)))); have n2_ := Aside0.mk (blk_below (g := gb153) (o := .cells #[.bool true, .bool true, .bool false] 26 (0, 0)) BK153.out hb); have n3_ := Aside0.mk (blk_below (g := gb154) (o := .cells #[.bool a3_0, .bool a3_1, .bool a3_2] 26 (0, 0)) BK154.out hb); have n4_ := Aside0.mk (below_step (by repeat (first | (with_reducible first | exact HB.out | apply below_alloc | apply pw_below_drewN | apply below_drew1 | refine below_set ?_ GE153.out | refine below_set ?_ GE154.out) | exact HB.out)) hb); clear HO164; clear BK153; clear BK154; clear HB; have HO164 := n0_; have HO167 := n1_; have BK153 := n2_; have BK154 := n3_; have HB := n4_; clear n0_ n1_ n2_ n3_ n4_; clear hb ho90; obtain ⟨Ao91, co91, eo91⟩ := Kd.R_slice HO167.out; subst eo91) | ((with_reducible refine gate_callee (f := 15) rfl ?_); refine goesL_ (some 30) rfl rfl Try.func15 (by kernel_rfl) rfl #[.slice Ao91 y165.length co91] rfl (by (try simp only [List.map_toArray, List.map_cons, List.map_nil]); first | done | rfl | (simp only [List.length_drop, List.length_take]; rfl)) ?_; (with_reducible refine (right_Meet.calls kj5 _ _ y165 t168 t169 t170 _ ?side1 ?side2 A14.out).mono ?_); (case side1 => repeat (first | exact (Kd.R_reads' HO167.out).2.2 | (with_reducible refine Kd.C_alloc ?_ _) | (with_reducible refine Kd.C_drewN ?_ _) | (with_reducible refine Kd.C_drew ?_))); (case side2 => exact (Kd.R_reads' HO167.out).2.1); rintro e w92 ⟨rfl, hb⟩; refine ⟨_, rfl, ?_⟩; have n0_ := Aside0.mk (Kd.R_below HO164.out hb); have n1_ := Aside0.mk (Kd.R_below HO167.out hb); have n2_ := Aside0.mk (blk_below (g := gb153) (o := .cells #[.bool true, .bool true, .bool false] 26 (0, 0)) BK153.out hb); have n3_ := Aside0.mk (blk_below (g := gb154) (o := .cells #[.bool a3_0, .bool a3_1, .bool a3_2] 26 (0, 0)) BK154.out hb); have n4_ := Aside0.mk (below_step (by repeat (first | (with_reducible first | exact HB.out | apply below_alloc | apply pw_below_drewN | apply below_drew1 | refine below_set ?_ GE153.out | refine below_set ?_ GE154.out) | exact HB.out)) hb); clear HO164; clear HO167; clear BK153; clear BK154; clear HB; have HO164 := n0_; have HO167 := n1_; have BK153 := n2_; have BK154 := n3_; have HB := n4_; clear n0_ n1_ n2_ n3_ n4_; (try clear hb); (try clear hb2); (try clear hk); (try clear hi)) | ((with_reducible refine gate_dst (N := 11) rfl ?_); (try (refine gate_guard (by rfl) ?_; dsimp only)); refine box_event ?hg (N := 11) ?hd (cs := #[.bool false, .bool false, .bool false]) (t := 26) ?hr ?_; (case hd => rfl); (case hg => rfl); (case hr => first | (go_simp; done) | (go_simp; rfl)); intro gb171 hg w93 hbox hb; have n0_ := Aside0.mk (Kd.R_below (Kd.R_elderB HO164.out gb171 (Nat.le_of_eq hg.symm)) hb); have n1_ := Aside0.mk (Kd.R_below (Kd.R_elderB HO167.out gb171 (Nat.le_of_eq hg.symm)) hb); have n2_ := Aside0.mk (blk_below (g := gb153) (o := .cells #[.bool true, .bool true, .bool false] 26 (0, 0)) BK153.out hb); have n3_ := Aside0.mk (blk_below (g := gb154) (o := .cells #[.bool a3_0, .bool a3_1, .bool a3_2] 26 (0, 0)) BK154.out hb); have n4_ := Aside0.mk (below_step (by repeat (first | (with_reducible first | exact HB.out | apply below_alloc | apply pw_below_drewN | apply below_drew1 | refine below_set ?_ GE153.out | refine below_set ?_ GE154.out) | exact HB.out)) hb); have n5_ := Aside0.mk (hbox); have n6_ := Aside0.mk ((by rw [hg]; exact (below_size (by repeat (first | (with_reducible first | exact HB.out | apply below_alloc | apply pw_below_drewN | apply below_drew1 | refine below_set ?_ GE153.out | refine below_set ?_ GE154.out) | exact HB.out))) : w.heap.size ≤ gb171)); have n7_ := Aside0.mk ((by rw [hg]; exact (below_size (by repeat (first | (with_reducible first | exact HB.out | apply below_alloc | apply pw_below_drewN | apply below_drew1 | refine below_set ?_ GE153.out | refine below_set ?_ GE154.out) | exact HB.out))) : w.heap.size ≤ gb171)); have n8_ := Aside0.mk ((by rw [hg]; exact Nat.ne_of_lt (blk_lt (g := gb153) (o := .cells #[.bool true, .bool true, .bool false] 26 (0, 0)) (by (with_reducible repeat (first | refine blk_drewN ?_ _ | refine blk_drew ?_ | refine blk_alloc ?_ _)); exact BK153.out)) : gb153 ≠ gb171)); have n9_ := Aside0.mk ((by rw [hg]; exact Nat.ne_of_gt (blk_lt (g := gb153) (o := .cells #[.bool true, .bool true, .bool false] 26 (0, 0)) (by (with_reducible repeat (first | refine blk_drewN ?_ _ | refine blk_drew ?_ | refine blk_alloc ?_ _)); exact BK153.out)) : gb171 ≠ gb153)); have n10_ := Aside0.mk ((by rw [hg]; exact Nat.ne_of_lt (blk_lt (g := gb154) (o := .cells #[.bool a3_0, .bool a3_1, .bool a3_2] 26 (0, 0)) (by (with_reducible repeat (first | refine blk_drewN ?_ _ | refine blk_drew ?_ | refine blk_alloc ?_ _)); exact BK154.out)) : gb154 ≠ gb171)); have n11_ := Aside0.mk ((by rw [hg]; exact Nat.ne_of_gt (blk_lt (g := gb154) (o := .cells #[.bool a3_0, .bool a3_1, .bool a3_2] 26 (0, 0)) (by (with_reducible repeat (first | refine blk_drewN ?_ _ | refine blk_drew ?_ | refine blk_alloc ?_ _)); exact BK154.out)) : gb171 ≠ gb154)); clear HO164; clear HO167; clear BK153; clear BK154; clear HB; have HO164 := n0_; have HO167 := n1_; have BK153 := n2_; have BK154 := n3_; have HB := n4_; have BK171 := n5_; have GW171 := n6_; have GE171 := n7_; have NB153_171 := n8_; have NB171_153 := n9_; have NB154_171 := n10_; have NB171_154 := n11_; clear n0_ n1_ n2_ n3_ n4_ n5_ n6_ n7_ n8_ n9_ n10_ n11_; clear hb hbox hg; have hnb94 := NB171_153.out; have hnc94 := NB153_171.out; have hnb95 := NB171_154.out; have hnc95 := NB154_171.out; have hcz96_0 : w93.cell? ⟨gb171, 0, none⟩ = some (.bool false) := (blk_cell BK171.out 0).trans rfl; have hcz96_1 : w93.cell? ⟨gb171, 1, none⟩ = some (.bool false) := (blk_cell BK171.out 1).trans rfl; have hcz96_2 : w93.cell? ⟨gb171, 2, none⟩ = some (.bool false) := (blk_cell BK171.out 2).trans rfl; have hfz96_0 := blk_frozen BK171.out 0; have hfz96_1 := blk_frozen BK171.out 1; have hfz96_2 := blk_frozen BK171.out 2))
            have n0_ : Aside0 (Kd.R k26 26 (((w93.setCell ⟨gb171, 0, none⟩ (.bool t168)).setCell ⟨gb171, 1, none⟩ (.bool t169)).setCell ⟨gb171, 2, none⟩ (.bool t170)) w.heap.size (fun k_ => some k_ ≠ (.slice Ao91 y165.length co91 : Value).ownBlock ∧ k_ ≠ gb153 ∧ k_ ≠ gb154 ∧ k_ ≠ gb171) v163 y162) := ⟨by (with_reducible repeat (first | apply Kd.R_alloc | apply Kd.R_drewN | apply Kd.R_drew)); exact Kd.R_mono (Kd.R_far (p := ⟨gb171, 2, none⟩) (Kd.R_far (p := ⟨gb171, 1, none⟩) (Kd.R_far (p := ⟨gb171, 0, none⟩) (Kd.R_mono HO164.out (fun k_ hk => (⟨hk, hk.2⟩ : _ ∧ k_ ≠ gb171))) (fun _ hk => hk.2) (.bool t168)) (fun _ hk => hk.2) (.bool t169)) (fun _ hk => hk.2) (.bool t170)) (fun _ hk => ⟨hk.1.1.2, ⟨hk.1.1.1.1, ⟨hk.1.1.1.2, hk.1.2⟩⟩⟩)⟩
            have n1_ : Aside0 (Kd.R k26 26 (((w93.setCell ⟨gb171, 0, none⟩ (.bool t168)).setCell ⟨gb171, 1, none⟩ (.bool t169)).setCell ⟨gb171, 2, none⟩ (.bool t170)) w.heap.size (fun k_ => some k_ ≠ (v163 : Value).ownBlock ∧ k_ ≠ gb153 ∧ k_ ≠ gb154 ∧ k_ ≠ gb171) (.slice Ao91 y165.length co91) y165) := ⟨by (with_reducible repeat (first | apply Kd.R_alloc | apply Kd.R_drewN | apply Kd.R_drew)); exact Kd.R_mono (Kd.R_far (p := ⟨gb171, 2, none⟩) (Kd.R_far (p := ⟨gb171, 1, none⟩) (Kd.R_far (p := ⟨gb171, 0, none⟩) (Kd.R_mono HO167.out (fun k_ hk => (⟨hk, hk.2⟩ : _ ∧ k_ ≠ gb171))) (fun _ hk => hk.2) (.bool t168)) (fun _ hk => hk.2) (.bool t169)) (fun _ hk => hk.2) (.bool t170)) (fun _ hk => ⟨hk.1.1.1.1.2, ⟨hk.1.1.1.2, ⟨hk.1.1.2, hk.1.2⟩⟩⟩)⟩
            have n2_ : Aside0 ((((w93.setCell ⟨gb171, 0, none⟩ (.bool t168)).setCell ⟨gb171, 1, none⟩ (.bool t169)).setCell ⟨gb171, 2, none⟩ (.bool t170)).heap[gb153]? = some (.cells #[.bool true, .bool true, .bool false] 26 (0, 0))) := ⟨by (with_reducible repeat (first | refine blk_drewN ?_ _ | refine blk_drew ?_ | refine blk_alloc ?_ _)); refine blk_far ?_ NB153_171.out _; (with_reducible repeat (first | refine blk_drewN ?_ _ | refine blk_drew ?_ | refine blk_alloc ?_ _)); refine blk_far ?_ NB153_171.out _; (with_reducible repeat (first | refine blk_drewN ?_ _ | refine blk_drew ?_ | refine blk_alloc ?_ _)); refine blk_far ?_ NB153_171.out _; (with_reducible repeat (first | refine blk_drewN ?_ _ | refine blk_drew ?_ | refine blk_alloc ?_ _)); exact BK153.out⟩
            have n3_ : Aside0 ((((w93.setCell ⟨gb171, 0, none⟩ (.bool t168)).setCell ⟨gb171, 1, none⟩ (.bool t169)).setCell ⟨gb171, 2, none⟩ (.bool t170)).heap[gb154]? = some (.cells #[.bool a3_0, .bool a3_1, .bool a3_2] 26 (0, 0))) := ⟨by (with_reducible repeat (first | refine blk_drewN ?_ _ | refine blk_drew ?_ | refine blk_alloc ?_ _)); refine blk_far ?_ NB154_171.out _; (with_reducible repeat (first | refine blk_drewN ?_ _ | refine blk_drew ?_ | refine blk_alloc ?_ _)); refine blk_far ?_ NB154_171.out _; (with_reducible repeat (first | refine blk_drewN ?_ _ | refine blk_drew ?_ | refine blk_alloc ?_ _)); refine blk_far ?_ NB154_171.out _; (with_reducible repeat (first | refine blk_drewN ?_ _ | refine blk_drew ?_ | refine blk_alloc ?_ _)); exact BK154.out⟩
            have n4_ : Aside0 ((((w93.setCell ⟨gb171, 0, none⟩ (.bool t168)).setCell ⟨gb171, 1, none⟩ (.bool t169)).setCell ⟨gb171, 2, none⟩ (.bool t170)).heap[gb171]? = some (.cells #[.bool t168, .bool t169, .bool t170] 26 (0, 0))) := ⟨by (with_reducible repeat (first | refine blk_drewN ?_ _ | refine blk_drew ?_ | refine blk_alloc ?_ _)); refine blk_put (cs := #[.bool t168, .bool t169, .bool false]) ?_ 2 _ rfl; (with_reducible repeat (first | refine blk_drewN ?_ _ | refine blk_drew ?_ | refine blk_alloc ?_ _)); refine blk_put (cs := #[.bool t168, .bool false, .bool false]) ?_ 1 _ rfl; (with_reducible repeat (first | refine blk_drewN ?_ _ | refine blk_drew ?_ | refine blk_alloc ?_ _)); refine blk_put (cs := #[.bool false, .bool false, .bool false]) ?_ 0 _ rfl; (with_reducible repeat (first | refine blk_drewN ?_ _ | refine blk_drew ?_ | refine blk_alloc ?_ _)); exact BK171.out⟩
            have n5_ : Aside0 (Below w.heap.size w (((w93.setCell ⟨gb171, 0, none⟩ (.bool t168)).setCell ⟨gb171, 1, none⟩ (.bool t169)).setCell ⟨gb171, 2, none⟩ (.bool t170))) := ⟨by repeat (first | (with_reducible first | exact HB.out | apply below_alloc | apply pw_below_drewN | apply below_drew1 | refine below_set ?_ GE153.out | refine below_set ?_ GE154.out | refine below_set ?_ GE171.out) | exact HB.out)⟩
            (try clear HO164)
            (try clear HO167)
            (try clear BK153)
            (try clear BK154)
            (try clear BK171)
            (try clear HB)
            generalize (((w93.setCell ⟨gb171, 0, none⟩ (.bool t168)).setCell ⟨gb171, 1, none⟩ (.bool t169)).setCell ⟨gb171, 2, none⟩ (.bool t170)) = w97 at n0_ n1_ n2_ n3_ n4_ n5_ ⊢
            have HO164 := n0_
            have HO167 := n1_
            have BK153 := n2_
            have BK154 := n3_
            have BK171 := n4_
            have HB := n5_
            clear n0_ n1_ n2_ n3_ n4_ n5_
            have n0_ := Aside0.mk (Kd.R_drew HO164.out)
            have n1_ := Aside0.mk (Kd.R_drew HO167.out)
            have n2_ := Aside0.mk (blk_drew BK153.out)
            have n3_ := Aside0.mk (blk_drew BK154.out)
            have n4_ := Aside0.mk (blk_drew BK171.out)
            have n5_ := Aside0.mk (below_drew1 HB.out)
            clear HO164
            clear HO167
            clear BK153
            clear BK154
            clear BK171
            clear HB
            have HO164 := n0_
            have HO167 := n1_
            have BK153 := n2_
            have BK154 := n3_
            have BK171 := n4_
            have HB := n5_
            clear n0_ n1_ n2_ n3_ n4_ n5_
            obtain ⟨Ao99, co99, eo99⟩ := Kd.R_slice HO164.out
            (first | subst eo99 | (injection eo99 with f1_ f2_ f3_; have f4_ := f1_.symm; have f5_ := f3_.symm; clear f1_ f2_ f3_; subst f4_; subst f5_))
            refine start_ (n := 43) (S := fun w' => w'.cell? ⟨gb171, 0, none⟩ = some (.bool t168) ∧ w'.cell? ⟨gb171, 1, none⟩ = some (.bool t169) ∧ w'.cell? ⟨gb171, 2, none⟩ = some (.bool t170) ∧ w'.cell? ⟨gb153, 0, none⟩ = some (.bool true) ∧ w'.cell? ⟨gb153, 1, none⟩ = some (.bool true) ∧ w'.cell? ⟨gb153, 2, none⟩ = some (.bool false) ∧ w'.cell? ⟨gb154, 0, none⟩ = some (.bool a3_0) ∧ w'.cell? ⟨gb154, 1, none⟩ = some (.bool a3_1) ∧ w'.cell? ⟨gb154, 2, none⟩ = some (.bool a3_2)) (ds := []) AL0 (by kernel_rfl) rfl rfl ⟨(blk_cell BK171.out 0).trans rfl, (blk_cell BK171.out 1).trans rfl, (blk_cell BK171.out 2).trans rfl, (blk_cell BK153.out 0).trans rfl, (blk_cell BK153.out 1).trans rfl, (blk_cell BK153.out 2).trans rfl, (blk_cell BK154.out 0).trans rfl, (blk_cell BK154.out 1).trans rfl, (blk_cell BK154.out 2).trans rfl⟩ (fun hHeld => ?_); refine with_tabW silhouettelaw06_RightParts.tab6 silhouettelaw06_RightParts.bits6 (fun HT_ HW_ => ?_)
            generalize w97.drew = w98 at HO164 HO167 BK153 BK154 BK171 HB hHeld ⊢
            refine pure_ (i := 0) (N := some 31) (v := ?_) (a' := ?_) AL1 rfl rfl (any_of HT_.out (by kernel_rfl)) (fun _ _ _ h => h) (Or.inl ⟨by rfl, ?_⟩) ?_ ?_
            rotate_left
            ·
             intro w'
             go_simp
             with_reducible rfl
            rotate_left
            ·
             simp only [Act.put, List.setIfInBounds_toArray, List.set_cons_zero, List.set_cons_succ, i64_w, i32_w]
             rfl
            refine pure_ (i := 1) (N := some 32) (v := ?_) (a' := ?_) AL2 rfl rfl (any_of HT_.out (by kernel_rfl)) (fun _ _ _ h => h) (Or.inl ⟨by rfl, ?_⟩) ?_ ?_
            rotate_left
            ·
             intro w'
             go_simp
             with_reducible rfl
            rotate_left
            ·
             simp only [Act.put, List.setIfInBounds_toArray, List.set_cons_zero, List.set_cons_succ, i64_w, i32_w]
             rfl
            refine pure_ (i := 2) (N := some 33) (v := ?_) (a' := ?_) AL3 rfl rfl (any_of HT_.out (by kernel_rfl)) (fun _ _ _ h => h) (Or.inl ⟨by rfl, ?_⟩) ?_ ?_
            rotate_left
            ·
             intro w'
             go_simp
             with_reducible rfl
            rotate_left
            ·
             simp only [Act.put, List.setIfInBounds_toArray, List.set_cons_zero, List.set_cons_succ, i64_w, i32_w]
             rfl
            refine pure_ (i := 4) (N := some 35) (v := ?_) (a' := ?_) AL4 rfl rfl (any_of HT_.out (by kernel_rfl)) (fun _ _ _ h => h) (Or.inl ⟨by rfl, ?_⟩) ?_ ?_
            rotate_left
            ·
             intro w'
             go_simp
             with_reducible rfl
            rotate_left
            ·
             simp only [Act.put, List.setIfInBounds_toArray, List.set_cons_zero, List.set_cons_succ, i64_w, i32_w]
             rfl
            refine pure_ (i := 6) (N := some 37) (v := ?_) (a' := ?_) AL5 rfl rfl (any_of HT_.out (by kernel_rfl)) (fun _ _ _ h => h) (Or.inl ⟨by rfl, ?_⟩) ?_ ?_
            rotate_left
            ·
             intro w'
             go_simp
             with_reducible rfl
            rotate_left
            ·
             simp only [Act.put, List.setIfInBounds_toArray, List.set_cons_zero, List.set_cons_succ, i64_w, i32_w]
             rfl
            refine one_ (i := 3) (N := some 34) AL6 rfl rfl (one_of HT_.out (by kernel_rfl)) (by decide) (fun K hK => ?_)
            refine goes_ Try.func15 (by kernel_rfl) rfl #[.slice Ao99 y162.length co99] (by rfl) rfl rfl (by (try simp only [List.map_toArray, List.map_cons, List.map_nil]); first | done | rfl | (simp only [List.length_drop, List.length_take]; rfl)) ?_
            with_reducible refine (right_Meet.calls kj5 _ _ y162 t172 t173 t174 _ ?side1 ?side2 A16.out).mono ?_
            (case side1 => repeat (first | exact (Kd.R_reads' HO164.out).2.2 | (with_reducible refine Kd.C_alloc ?_ _) | (with_reducible refine Kd.C_drewN ?_ _) | (with_reducible refine Kd.C_drew ?_)))
            (case side2 => exact (Kd.R_reads' HO164.out).2.1)
            rintro e w100 ⟨rfl, hb⟩
            refine ⟨_, rfl, ?_⟩
            have n0_ := Aside0.mk (Kd.R_below HO164.out hb)
            have n1_ := Aside0.mk (Kd.R_below HO167.out hb)
            have n2_ := Aside0.mk (blk_below (g := gb153) (o := .cells #[.bool true, .bool true, .bool false] 26 (0, 0)) BK153.out hb)
            have n3_ := Aside0.mk (blk_below (g := gb154) (o := .cells #[.bool a3_0, .bool a3_1, .bool a3_2] 26 (0, 0)) BK154.out hb)
            have n4_ := Aside0.mk (blk_below (g := gb171) (o := .cells #[.bool t168, .bool t169, .bool t170] 26 (0, 0)) BK171.out hb)
            have n5_ := Aside0.mk (below_step (by repeat (first | (with_reducible first | exact HB.out | apply below_alloc | apply pw_below_drewN | apply below_drew1 | refine below_set ?_ GE153.out | refine below_set ?_ GE154.out | refine below_set ?_ GE171.out) | exact HB.out)) hb)
            clear HO164
            clear HO167
            clear BK153
            clear BK154
            clear BK171
            clear HB
            have HO164 := n0_
            have HO167 := n1_
            have BK153 := n2_
            have BK154 := n3_
            have BK171 := n4_
            have HB := n5_
            clear n0_ n1_ n2_ n3_ n4_ n5_
            (try clear hb)
            (try clear hb2)
            (try clear hk)
            (try clear hi)
            refine hK.out _ _ ⟨(blk_cell BK171.out 0).trans rfl, (blk_cell BK171.out 1).trans rfl, (blk_cell BK171.out 2).trans rfl, (blk_cell BK153.out 0).trans rfl, (blk_cell BK153.out 1).trans rfl, (blk_cell BK153.out 2).trans rfl, (blk_cell BK154.out 0).trans rfl, (blk_cell BK154.out 1).trans rfl, (blk_cell BK154.out 2).trans rfl⟩ (fun hHeld => ?_)
            clear hK K
            refine norm_ (a' := ?_) ?_ ?_
            rotate_left
            ·
             show Act.put _ (some 34) _ = _
             simp only [Act.put, List.setIfInBounds_toArray, List.set_cons_zero, List.set_cons_succ, i64_w, i32_w]
             rfl
            refine one_ (i := 5) (N := some 36) AL7 rfl rfl (one_of HT_.out (by kernel_rfl)) (by decide) (fun K hK => ?_)
            refine goes_ Try.func15 (by kernel_rfl) rfl #[.slice A0 l0.length c0] (by rfl) rfl rfl (by (try simp only [List.map_toArray, List.map_cons, List.map_nil]); first | done | rfl | (simp only [List.length_drop, List.length_take]; rfl)) ?_
            with_reducible refine (right_Meet.calls kj5 _ _ l0 t175 t176 t177 _ ?side1 ?side2 A17.out).mono ?_
            (case side1 => repeat (first | exact (Kd.C_below HR0.out HB.out) | (with_reducible refine Kd.C_alloc ?_ _) | (with_reducible refine Kd.C_drewN ?_ _) | (with_reducible refine Kd.C_drew ?_)))
            (case side2 => exact HC0.out)
            rintro e w101 ⟨rfl, hb⟩
            refine ⟨_, rfl, ?_⟩
            have n0_ := Aside0.mk (Kd.R_below HO164.out hb)
            have n1_ := Aside0.mk (Kd.R_below HO167.out hb)
            have n2_ := Aside0.mk (blk_below (g := gb153) (o := .cells #[.bool true, .bool true, .bool false] 26 (0, 0)) BK153.out hb)
            have n3_ := Aside0.mk (blk_below (g := gb154) (o := .cells #[.bool a3_0, .bool a3_1, .bool a3_2] 26 (0, 0)) BK154.out hb)
            have n4_ := Aside0.mk (blk_below (g := gb171) (o := .cells #[.bool t168, .bool t169, .bool t170] 26 (0, 0)) BK171.out hb)
            have n5_ := Aside0.mk (below_step (by repeat (first | (with_reducible first | exact HB.out | apply below_alloc | apply pw_below_drewN | apply below_drew1 | refine below_set ?_ GE153.out | refine below_set ?_ GE154.out | refine below_set ?_ GE171.out) | exact HB.out)) hb)
            clear HO164
            clear HO167
            clear BK153
            clear BK154
            clear BK171
            clear HB
            have HO164 := n0_
            have HO167 := n1_
            have BK153 := n2_
            have BK154 := n3_
            have BK171 := n4_
            have HB := n5_
            clear n0_ n1_ n2_ n3_ n4_ n5_
            (try clear hb)
            (try clear hb2)
            (try clear hk)
            (try clear hi)
            refine hK.out _ _ ⟨(blk_cell BK171.out 0).trans rfl, (blk_cell BK171.out 1).trans rfl, (blk_cell BK171.out 2).trans rfl, (blk_cell BK153.out 0).trans rfl, (blk_cell BK153.out 1).trans rfl, (blk_cell BK153.out 2).trans rfl, (blk_cell BK154.out 0).trans rfl, (blk_cell BK154.out 1).trans rfl, (blk_cell BK154.out 2).trans rfl⟩ (fun hHeld => ?_)
            clear hK K
            refine norm_ (a' := ?_) ?_ ?_
            rotate_left
            ·
             show Act.put _ (some 36) _ = _
             simp only [Act.put, List.setIfInBounds_toArray, List.set_cons_zero, List.set_cons_succ, i64_w, i32_w]
             rfl
            refine one_ (i := 7) (N := some 38) AL8 rfl rfl (one_of HT_.out (by kernel_rfl)) (by decide) (fun K hK => ?_)
            refine goes_ Try.func15 (by kernel_rfl) rfl #[.slice A1 l1.length c1] (by rfl) rfl rfl (by (try simp only [List.map_toArray, List.map_cons, List.map_nil]); first | done | rfl | (simp only [List.length_drop, List.length_take]; rfl)) ?_
            with_reducible refine (right_Meet.calls kj5 _ _ l1 t178 t179 t180 _ ?side1 ?side2 A18.out).mono ?_
            (case side1 => repeat (first | exact (Kd.C_below HR1.out HB.out) | (with_reducible refine Kd.C_alloc ?_ _) | (with_reducible refine Kd.C_drewN ?_ _) | (with_reducible refine Kd.C_drew ?_)))
            (case side2 => exact HC1.out)
            rintro e w102 ⟨rfl, hb⟩
            refine ⟨_, rfl, ?_⟩
            have n0_ := Aside0.mk (Kd.R_below HO164.out hb)
            have n1_ := Aside0.mk (Kd.R_below HO167.out hb)
            have n2_ := Aside0.mk (blk_below (g := gb153) (o := .cells #[.bool true, .bool true, .bool false] 26 (0, 0)) BK153.out hb)
            have n3_ := Aside0.mk (blk_below (g := gb154) (o := .cells #[.bool a3_0, .bool a3_1, .bool a3_2] 26 (0, 0)) BK154.out hb)
            have n4_ := Aside0.mk (blk_below (g := gb171) (o := .cells #[.bool t168, .bool t169, .bool t170] 26 (0, 0)) BK171.out hb)
            have n5_ := Aside0.mk (below_step (by repeat (first | (with_reducible first | exact HB.out | apply below_alloc | apply pw_below_drewN | apply below_drew1 | refine below_set ?_ GE153.out | refine below_set ?_ GE154.out | refine below_set ?_ GE171.out) | exact HB.out)) hb)
            clear HO164
            clear HO167
            clear BK153
            clear BK154
            clear BK171
            clear HB
            have HO164 := n0_
            have HO167 := n1_
            have BK153 := n2_
            have BK154 := n3_
            have BK171 := n4_
            have HB := n5_
            clear n0_ n1_ n2_ n3_ n4_ n5_
            (try clear hb)
            (try clear hb2)
            (try clear hk)
            (try clear hi)
            refine hK.out _ _ ⟨(blk_cell BK171.out 0).trans rfl, (blk_cell BK171.out 1).trans rfl, (blk_cell BK171.out 2).trans rfl, (blk_cell BK153.out 0).trans rfl, (blk_cell BK153.out 1).trans rfl, (blk_cell BK153.out 2).trans rfl, (blk_cell BK154.out 0).trans rfl, (blk_cell BK154.out 1).trans rfl, (blk_cell BK154.out 2).trans rfl⟩ (fun hHeld => ?_)
            clear hK K
            refine norm_ (a' := ?_) ?_ ?_
            rotate_left
            ·
             show Act.put _ (some 38) _ = _
             simp only [Act.put, List.setIfInBounds_toArray, List.set_cons_zero, List.set_cons_succ, i64_w, i32_w]
             rfl
            refine one_ (i := 8) (N := some 39) AL9 rfl rfl (one_of HT_.out (by kernel_rfl)) (by decide) (fun K hK => ?_)
            refine Kd.R_lit_step k26 _ 26 ?hg (N := 39) ?hd (xs := ([(⟨t175, t176, t177⟩ : S26), (⟨t178, t179, t180⟩ : S26)] : List (S26))) (inner := [.bool t175, .bool t176, .bool t177, .bool t178, .bool t179, .bool t180]) (ok := fun _ => True) (okp := fun _ => True) ?hr ?hp (fun _ hk => hk) trivial (Below.refl _ _) (Nat.le_refl _) (by simp) ?_; (case hd => rfl); (case hg => rfl); (case hr => first | (go_simp; done) | (go_simp; rfl)); (case hp => exact (Reps.c3 (show Kd.M k26 _ _ _ (⟨t175, t176, t177⟩ : S26) [.bool t175, .bool t176, .bool t177] from (k26_mkM _ _ _ (⟨t175, t176, t177⟩ : S26) )) (Reps.c3 (show Kd.M k26 _ _ _ (⟨t178, t179, t180⟩ : S26) [.bool t178, .bool t179, .bool t180] from (k26_mkM _ _ _ (⟨t178, t179, t180⟩ : S26) )) (Reps.none _ _))))
            intro v182 w103 ho104 hb hg_ hnew_
            clear hg_ hnew_
            (first | rw [← Ny181.out] at ho104 | (simp only [Int.reduceToNat] at ho104; rw [← Ny181.out] at ho104))
            have n0_ := Aside0.mk (Kd.R_elder' HO164.out (Kd.R_base ho104) hb)
            have n1_ := Aside0.mk (Kd.R_elder' HO167.out (Kd.R_base ho104) hb)
            have n2_ := Aside0.mk (Kd.R_lower (Kd.R_newB (Kd.R_newB (Kd.R_newB (Kd.R_new' (Kd.R_new' ho104 (Kd.R_lt HO164.out)) (Kd.R_lt HO167.out)) (g := gb153) (o := .cells #[.bool true, .bool true, .bool false] 26 (0, 0)) (by (with_reducible repeat (first | refine blk_drewN ?_ _ | refine blk_drew ?_ | refine blk_alloc ?_ _)); exact BK153.out)) (g := gb154) (o := .cells #[.bool a3_0, .bool a3_1, .bool a3_2] 26 (0, 0)) (by (with_reducible repeat (first | refine blk_drewN ?_ _ | refine blk_drew ?_ | refine blk_alloc ?_ _)); exact BK154.out)) (g := gb171) (o := .cells #[.bool t168, .bool t169, .bool t170] 26 (0, 0)) (by (with_reducible repeat (first | refine blk_drewN ?_ _ | refine blk_drew ?_ | refine blk_alloc ?_ _)); exact BK171.out)) (below_size (by repeat (first | (with_reducible first | exact HB.out | apply below_alloc | apply pw_below_drewN | apply below_drew1 | refine below_set ?_ GE153.out | refine below_set ?_ GE154.out | refine below_set ?_ GE171.out) | exact HB.out))))
            have n3_ := Aside0.mk (blk_below (g := gb153) (o := .cells #[.bool true, .bool true, .bool false] 26 (0, 0)) BK153.out hb)
            have n4_ := Aside0.mk (blk_below (g := gb154) (o := .cells #[.bool a3_0, .bool a3_1, .bool a3_2] 26 (0, 0)) BK154.out hb)
            have n5_ := Aside0.mk (blk_below (g := gb171) (o := .cells #[.bool t168, .bool t169, .bool t170] 26 (0, 0)) BK171.out hb)
            have n6_ := Aside0.mk (below_step (by repeat (first | (with_reducible first | exact HB.out | apply below_alloc | apply pw_below_drewN | apply below_drew1 | refine below_set ?_ GE153.out | refine below_set ?_ GE154.out | refine below_set ?_ GE171.out) | exact HB.out)) hb)
            clear HO164
            clear HO167
            clear BK153
            clear BK154
            clear BK171
            clear HB
            have HO164 := n0_
            have HO167 := n1_
            have HO183 := n2_
            have BK153 := n3_
            have BK154 := n4_
            have BK171 := n5_
            have HB := n6_
            clear n0_ n1_ n2_ n3_ n4_ n5_ n6_
            clear hb ho104
            obtain ⟨Ao105, co105, eo105⟩ := Kd.R_slice HO183.out
            (first | subst eo105 | (injection eo105 with f1_ f2_ f3_; have f4_ := f1_.symm; have f5_ := f3_.symm; clear f1_ f2_ f3_; subst f4_; subst f5_))
            refine hK.out _ _ ⟨(blk_cell BK171.out 0).trans rfl, (blk_cell BK171.out 1).trans rfl, (blk_cell BK171.out 2).trans rfl, (blk_cell BK153.out 0).trans rfl, (blk_cell BK153.out 1).trans rfl, (blk_cell BK153.out 2).trans rfl, (blk_cell BK154.out 0).trans rfl, (blk_cell BK154.out 1).trans rfl, (blk_cell BK154.out 2).trans rfl⟩ (fun hHeld => ?_)
            clear hK K
            refine norm_ (a' := ?_) ?_ ?_
            rotate_left
            ·
             show Act.put _ (some 39) _ = _
             simp only [Act.put, List.setIfInBounds_toArray, List.set_cons_zero, List.set_cons_succ, i64_w, i32_w]
             rfl
            refine one_ (i := 9) (N := some 40) AL10 rfl rfl (one_of HT_.out (by kernel_rfl)) (by decide) (fun K hK => ?_)
            refine goes_ Try.func15 (by kernel_rfl) rfl #[.slice Ao105 y181.length co105] (by rfl) rfl rfl (by (try simp only [List.map_toArray, List.map_cons, List.map_nil]); first | done | rfl | (simp only [List.length_drop, List.length_take]; rfl)) ?_
            with_reducible refine (right_Meet.calls kj5 _ _ y181 t184 t185 t186 _ ?side1 ?side2 A19.out).mono ?_
            (case side1 => repeat (first | exact (Kd.R_reads' HO183.out).2.2 | (with_reducible refine Kd.C_alloc ?_ _) | (with_reducible refine Kd.C_drewN ?_ _) | (with_reducible refine Kd.C_drew ?_)))
            (case side2 => exact (Kd.R_reads' HO183.out).2.1)
            rintro e w106 ⟨rfl, hb⟩
            refine ⟨_, rfl, ?_⟩
            have n0_ := Aside0.mk (Kd.R_below HO164.out hb)
            have n1_ := Aside0.mk (Kd.R_below HO167.out hb)
            have n2_ := Aside0.mk (Kd.R_below HO183.out hb)
            have n3_ := Aside0.mk (blk_below (g := gb153) (o := .cells #[.bool true, .bool true, .bool false] 26 (0, 0)) BK153.out hb)
            have n4_ := Aside0.mk (blk_below (g := gb154) (o := .cells #[.bool a3_0, .bool a3_1, .bool a3_2] 26 (0, 0)) BK154.out hb)
            have n5_ := Aside0.mk (blk_below (g := gb171) (o := .cells #[.bool t168, .bool t169, .bool t170] 26 (0, 0)) BK171.out hb)
            have n6_ := Aside0.mk (below_step (by repeat (first | (with_reducible first | exact HB.out | apply below_alloc | apply pw_below_drewN | apply below_drew1 | refine below_set ?_ GE153.out | refine below_set ?_ GE154.out | refine below_set ?_ GE171.out) | exact HB.out)) hb)
            clear HO164
            clear HO167
            clear HO183
            clear BK153
            clear BK154
            clear BK171
            clear HB
            have HO164 := n0_
            have HO167 := n1_
            have HO183 := n2_
            have BK153 := n3_
            have BK154 := n4_
            have BK171 := n5_
            have HB := n6_
            clear n0_ n1_ n2_ n3_ n4_ n5_ n6_
            (try clear hb)
            (try clear hb2)
            (try clear hk)
            (try clear hi)
            refine hK.out _ _ ⟨(blk_cell BK171.out 0).trans rfl, (blk_cell BK171.out 1).trans rfl, (blk_cell BK171.out 2).trans rfl, (blk_cell BK153.out 0).trans rfl, (blk_cell BK153.out 1).trans rfl, (blk_cell BK153.out 2).trans rfl, (blk_cell BK154.out 0).trans rfl, (blk_cell BK154.out 1).trans rfl, (blk_cell BK154.out 2).trans rfl⟩ (fun hHeld => ?_)
            clear hK K
            refine norm_ (a' := ?_) ?_ ?_
            rotate_left
            ·
             show Act.put _ (some 40) _ = _
             simp only [Act.put, List.setIfInBounds_toArray, List.set_cons_zero, List.set_cons_succ, i64_w, i32_w]
             rfl
            refine pure_ (i := 10) (N := some 41) (v := ?_) (a' := ?_) AL11 rfl rfl (any_of HT_.out (by kernel_rfl)) (fun _ _ _ h => h) (Or.inl ⟨by rfl, ?_⟩) ?_ ?_
            rotate_left
            ·
             intro w'
             go_simp
             with_reducible rfl
            rotate_left
            ·
             simp only [Act.put, List.setIfInBounds_toArray, List.set_cons_zero, List.set_cons_succ, i64_w, i32_w]
             rfl
            refine pure_ (i := 11) (N := some 42) (v := ?_) (a' := ?_) AL12 rfl rfl (any_of HT_.out (by kernel_rfl)) (fun _ _ _ h => h) (Or.inl ⟨by rfl, ?_⟩) ?_ ?_
            rotate_left
            ·
             intro w'
             go_simp
             with_reducible rfl
            rotate_left
            ·
             simp only [Act.put, List.setIfInBounds_toArray, List.set_cons_zero, List.set_cons_succ, i64_w, i32_w]
             rfl
            refine pure_ (i := 12) (N := some 43) (v := ?_) (a' := ?_) AL13 rfl rfl (any_of HT_.out (by kernel_rfl)) (fun _ _ _ h => h) (Or.inl ⟨by rfl, ?_⟩) ?_ ?_
            rotate_left
            ·
             intro w'
             go_simp
             with_reducible rfl
            rotate_left
            ·
             simp only [Act.put, List.setIfInBounds_toArray, List.set_cons_zero, List.set_cons_succ, i64_w, i32_w]
             rfl
            refine pure_ (i := 14) (N := some 45) (v := ?_) (a' := ?_) AL14 rfl rfl (any_of HT_.out (by kernel_rfl)) (fun _ _ _ h => h) (Or.inl ⟨by rfl, ?_⟩) ?_ ?_
            rotate_left
            ·
             intro w'
             go_simp
             with_reducible rfl
            rotate_left
            ·
             simp only [Act.put, List.setIfInBounds_toArray, List.set_cons_zero, List.set_cons_succ, i64_w, i32_w]
             rfl
            refine pure_ (i := 20) (N := some 51) (v := ?_) (a' := ?_) AL15 rfl rfl (any_of HT_.out (by kernel_rfl)) (fun _ _ _ h => h) (Or.inl ⟨by rfl, ?_⟩) ?_ ?_
            rotate_left
            ·
             intro w'
             go_simp
             with_reducible rfl
            rotate_left
            ·
             simp only [Act.put, List.setIfInBounds_toArray, List.set_cons_zero, List.set_cons_succ, i64_w, i32_w]
             rfl
            refine pure_ (i := 26) (N := some 57) (v := ?_) (a' := ?_) AL16 rfl rfl (any_of HT_.out (by kernel_rfl)) (fun _ _ _ h => h) (Or.inl ⟨by rfl, ?_⟩) ?_ ?_
            rotate_left
            ·
             intro w'
             go_simp
             with_reducible rfl
            rotate_left
            ·
             simp only [Act.put, List.setIfInBounds_toArray, List.set_cons_zero, List.set_cons_succ, i64_w, i32_w]
             rfl
            refine take_ (i := 13) (N := some 44) (v := ?_) (a' := ?_) AL17 rfl rfl (take_ofW HT_.out HW_.out (by kernel_rfl)) (fun _ _ _ h => h) (Or.inl ⟨by rfl, ?_⟩) hHeld ?_ ?_
            rotate_left
            ·
             rintro w' ⟨s0, s1, s2, s3, s4, s5, s6, s7, s8⟩
             go_simp
             with_reducible rfl
            rotate_left
            ·
             simp only [Act.put, List.setIfInBounds_toArray, List.set_cons_zero, List.set_cons_succ, i64_w, i32_w]
             rfl
            refine take_ (i := 15) (N := some 46) (v := ?_) (a' := ?_) AL18 rfl rfl (take_ofW HT_.out HW_.out (by kernel_rfl)) (fun _ _ _ h => h) (Or.inl ⟨by rfl, ?_⟩) hHeld ?_ ?_
            rotate_left
            ·
             rintro w' ⟨s0, s1, s2, s3, s4, s5, s6, s7, s8⟩
             go_simp
             with_reducible rfl
            rotate_left
            ·
             simp only [Act.put, List.setIfInBounds_toArray, List.set_cons_zero, List.set_cons_succ, i64_w, i32_w]
             rfl
            refine pure_ (i := 16) (N := some 47) (v := ?_) (a' := ?_) AL19 rfl rfl (any_of HT_.out (by kernel_rfl)) (fun _ _ _ h => h) (Or.inl ⟨by rfl, ?_⟩) ?_ ?_
            rotate_left
            ·
             intro w'
             go_simp
             with_reducible rfl
            rotate_left
            ·
             simp only [Act.put, List.setIfInBounds_toArray, List.set_cons_zero, List.set_cons_succ, i64_w, i32_w]
             rfl
            refine pure_ (i := 17) (N := some 48) (v := ?_) (a' := ?_) AL20 rfl rfl (any_of HT_.out (by kernel_rfl)) (fun _ _ _ h => h) (Or.inl ⟨by rfl, ?_⟩) ?_ ?_
            rotate_left
            ·
             intro w'
             go_simp
             with_reducible rfl
            rotate_left
            ·
             simp only [Act.put, List.setIfInBounds_toArray, List.set_cons_zero, List.set_cons_succ, i64_w, i32_w]
             rfl
            refine take_ (i := 18) (N := some 49) (v := ?_) (a' := ?_) AL21 rfl rfl (take_ofW HT_.out HW_.out (by kernel_rfl)) (fun _ _ _ h => h) (Or.inl ⟨by rfl, ?_⟩) hHeld ?_ ?_
            rotate_left
            ·
             rintro w' ⟨s0, s1, s2, s3, s4, s5, s6, s7, s8⟩
             go_simp
             with_reducible rfl
            rotate_left
            ·
             simp only [Act.put, List.setIfInBounds_toArray, List.set_cons_zero, List.set_cons_succ, i64_w, i32_w]
             rfl
            refine pure_ (i := 19) (N := some 50) (v := ?_) (a' := ?_) AL22 rfl rfl (any_of HT_.out (by kernel_rfl)) (fun _ _ _ h => h) (Or.inl ⟨by rfl, ?_⟩) ?_ ?_
            rotate_left
            ·
             intro w'
             go_simp
             with_reducible rfl
            rotate_left
            ·
             simp only [Act.put, List.setIfInBounds_toArray, List.set_cons_zero, List.set_cons_succ, i64_w, i32_w]
             rfl
            refine take_ (i := 21) (N := some 52) (v := ?_) (a' := ?_) AL23 rfl rfl (take_ofW HT_.out HW_.out (by kernel_rfl)) (fun _ _ _ h => h) (Or.inl ⟨by rfl, ?_⟩) hHeld ?_ ?_
            rotate_left
            ·
             rintro w' ⟨s0, s1, s2, s3, s4, s5, s6, s7, s8⟩
             go_simp
             with_reducible rfl
            rotate_left
            ·
             simp only [Act.put, List.setIfInBounds_toArray, List.set_cons_zero, List.set_cons_succ, i64_w, i32_w]
             rfl
            refine pure_ (i := 22) (N := some 53) (v := ?_) (a' := ?_) AL24 rfl rfl (any_of HT_.out (by kernel_rfl)) (fun _ _ _ h => h) (Or.inl ⟨by rfl, ?_⟩) ?_ ?_
            rotate_left
            ·
             intro w'
             go_simp
             with_reducible rfl
            rotate_left
            ·
             simp only [Act.put, List.setIfInBounds_toArray, List.set_cons_zero, List.set_cons_succ, i64_w, i32_w]
             rfl
            refine pure_ (i := 23) (N := some 54) (v := ?_) (a' := ?_) AL25 rfl rfl (any_of HT_.out (by kernel_rfl)) (fun _ _ _ h => h) (Or.inl ⟨by rfl, ?_⟩) ?_ ?_
            rotate_left
            ·
             intro w'
             go_simp
             with_reducible rfl
            rotate_left
            ·
             simp only [Act.put, List.setIfInBounds_toArray, List.set_cons_zero, List.set_cons_succ, i64_w, i32_w]
             rfl
            refine take_ (i := 24) (N := some 55) (v := ?_) (a' := ?_) AL26 rfl rfl (take_ofW HT_.out HW_.out (by kernel_rfl)) (fun _ _ _ h => h) (Or.inl ⟨by rfl, ?_⟩) hHeld ?_ ?_
            rotate_left
            ·
             rintro w' ⟨s0, s1, s2, s3, s4, s5, s6, s7, s8⟩
             go_simp
             with_reducible rfl
            rotate_left
            ·
             simp only [Act.put, List.setIfInBounds_toArray, List.set_cons_zero, List.set_cons_succ, i64_w, i32_w]
             rfl
            refine pure_ (i := 25) (N := some 56) (v := ?_) (a' := ?_) AL27 rfl rfl (any_of HT_.out (by kernel_rfl)) (fun _ _ _ h => h) (Or.inl ⟨by rfl, ?_⟩) ?_ ?_
            rotate_left
            ·
             intro w'
             go_simp
             with_reducible rfl
            rotate_left
            ·
             simp only [Act.put, List.setIfInBounds_toArray, List.set_cons_zero, List.set_cons_succ, i64_w, i32_w]
             rfl
            refine take_ (i := 27) (N := some 58) (v := ?_) (a' := ?_) AL28 rfl rfl (take_ofW HT_.out HW_.out (by kernel_rfl)) (fun _ _ _ h => h) (Or.inl ⟨by rfl, ?_⟩) hHeld ?_ ?_
            rotate_left
            ·
             rintro w' ⟨s0, s1, s2, s3, s4, s5, s6, s7, s8⟩
             go_simp
             with_reducible rfl
            rotate_left
            ·
             simp only [Act.put, List.setIfInBounds_toArray, List.set_cons_zero, List.set_cons_succ, i64_w, i32_w]
             rfl
            refine pure_ (i := 28) (N := some 59) (v := ?_) (a' := ?_) AL29 rfl rfl (any_of HT_.out (by kernel_rfl)) (fun _ _ _ h => h) (Or.inl ⟨by rfl, ?_⟩) ?_ ?_
            rotate_left
            ·
             intro w'
             go_simp
             with_reducible rfl
            rotate_left
            ·
             simp only [Act.put, List.setIfInBounds_toArray, List.set_cons_zero, List.set_cons_succ, i64_w, i32_w]
             rfl
            refine pure_ (i := 29) (N := some 60) (v := undef) (a' := ?_) AL30 rfl rfl (any_of HT_.out (by kernel_rfl)) (fun _ _ _ h => h) (Or.inr ⟨by rfl, rfl⟩) ?_ ?_
            rotate_left
            ·
             simp only [Act.put, List.setIfInBounds_toArray, List.set_cons_zero, List.set_cons_succ, i64_w, i32_w]
             rfl
            refine pure_ (i := 30) (N := some 61) (v := undef) (a' := ?_) AL31 rfl rfl (any_of HT_.out (by kernel_rfl)) (fun _ _ _ h => h) (Or.inr ⟨by rfl, rfl⟩) ?_ ?_
            rotate_left
            ·
             simp only [Act.put, List.setIfInBounds_toArray, List.set_cons_zero, List.set_cons_succ, i64_w, i32_w]
             rfl
            refine pure_ (i := 31) (N := some 62) (v := ?_) (a' := ?_) AL32 rfl rfl (any_of HT_.out (by kernel_rfl)) (fun _ _ _ h => h) (Or.inl ⟨by rfl, ?_⟩) ?_ ?_
            rotate_left
            ·
             intro w'
             go_simp
             with_reducible rfl
            rotate_left
            ·
             simp only [Act.put, List.setIfInBounds_toArray, List.set_cons_zero, List.set_cons_succ, i64_w, i32_w]
             rfl
            refine pure_ (i := 32) (N := some 63) (v := ?_) (a' := ?_) AL33 rfl rfl (any_of HT_.out (by kernel_rfl)) (fun _ _ _ h => h) (Or.inl ⟨by rfl, ?_⟩) ?_ ?_
            rotate_left
            ·
             intro w'
             go_simp
             with_reducible rfl
            rotate_left
            ·
             simp only [Act.put, List.setIfInBounds_toArray, List.set_cons_zero, List.set_cons_succ, i64_w, i32_w]
             rfl
            refine pure_ (i := 33) (N := some 64) (v := ?_) (a' := ?_) AL34 rfl rfl (any_of HT_.out (by kernel_rfl)) (fun _ _ _ h => h) (Or.inl ⟨by rfl, ?_⟩) ?_ ?_
            rotate_left
            ·
             intro w'
             go_simp
             with_reducible rfl
            rotate_left
            ·
             simp only [Act.put, List.setIfInBounds_toArray, List.set_cons_zero, List.set_cons_succ, i64_w, i32_w]
             rfl
            refine pure_ (i := 34) (N := some 65) (v := ?_) (a' := ?_) AL35 rfl rfl (any_of HT_.out (by kernel_rfl)) (fun _ _ _ h => h) (Or.inl ⟨by rfl, ?_⟩) ?_ ?_
            rotate_left
            ·
             intro w'
             go_simp
             with_reducible rfl
            rotate_left
            ·
             simp only [Act.put, List.setIfInBounds_toArray, List.set_cons_zero, List.set_cons_succ, i64_w, i32_w]
             rfl
            refine pure_ (i := 35) (N := some 66) (v := ?_) (a' := ?_) AL36 rfl rfl (any_of HT_.out (by kernel_rfl)) (fun _ _ _ h => h) (Or.inl ⟨by rfl, ?_⟩) ?_ ?_
            rotate_left
            ·
             intro w'
             go_simp
             with_reducible rfl
            rotate_left
            ·
             simp only [Act.put, List.setIfInBounds_toArray, List.set_cons_zero, List.set_cons_succ, i64_w, i32_w]
             rfl
            refine take_ (i := 36) (N := some 67) (v := ?_) (a' := ?_) AL37 rfl rfl (take_ofW HT_.out HW_.out (by kernel_rfl)) (fun _ _ _ h => h) (Or.inl ⟨by rfl, ?_⟩) hHeld ?_ ?_
            rotate_left
            ·
             rintro w' ⟨s0, s1, s2, s3, s4, s5, s6, s7, s8⟩
             go_simp
             with_reducible rfl
            rotate_left
            ·
             simp only [Act.put, List.setIfInBounds_toArray, List.set_cons_zero, List.set_cons_succ, i64_w, i32_w]
             rfl
            refine take_ (i := 39) (N := some 70) (v := ?_) (a' := ?_) AL38 rfl rfl (take_ofW HT_.out HW_.out (by kernel_rfl)) (fun _ _ _ h => h) (Or.inl ⟨by rfl, ?_⟩) hHeld ?_ ?_
            rotate_left
            ·
             rintro w' ⟨s0, s1, s2, s3, s4, s5, s6, s7, s8⟩
             go_simp
             with_reducible rfl
            rotate_left
            ·
             simp only [Act.put, List.setIfInBounds_toArray, List.set_cons_zero, List.set_cons_succ, i64_w, i32_w]
             rfl
            refine one_ (i := 37) (N := some 68) AL39 rfl rfl (one_of HT_.out (by kernel_rfl)) (by decide) (fun K hK => ?_)
            refine Kd.R_lit_step k26 _ 26 ?hg (N := 68) ?hd (xs := ([(⟨true, true, false⟩ : S26)] : List (S26))) (inner := [.bool true, .bool true, .bool false]) (ok := fun _ => True) (okp := fun _ => True) ?hr ?hp (fun _ hk => hk) trivial (Below.refl _ _) (Nat.le_refl _) (by simp) ?_; (case hd => rfl); (case hg => rfl); (case hr => first | (go_simp; done) | (go_simp; rfl)); (case hp => exact (Reps.c3 (show Kd.M k26 _ _ _ (⟨true, true, false⟩ : S26) [.bool true, .bool true, .bool false] from (k26_mkM _ _ _ (⟨true, true, false⟩ : S26) )) (Reps.none _ _)))
            intro v194 w107 ho108 hb hg_ hnew_
            clear hg_ hnew_
            (first | rw [← Ny193.out] at ho108 | (simp only [Int.reduceToNat] at ho108; rw [← Ny193.out] at ho108))
            have n0_ := Aside0.mk (Kd.R_elder' HO164.out (Kd.R_base ho108) hb)
            have n1_ := Aside0.mk (Kd.R_elder' HO167.out (Kd.R_base ho108) hb)
            have n2_ := Aside0.mk (Kd.R_elder' HO183.out (Kd.R_base ho108) hb)
            have n3_ := Aside0.mk (Kd.R_lower (Kd.R_newB (Kd.R_newB (Kd.R_newB (Kd.R_new' (Kd.R_new' (Kd.R_new' ho108 (Kd.R_lt HO164.out)) (Kd.R_lt HO167.out)) (Kd.R_lt HO183.out)) (g := gb153) (o := .cells #[.bool true, .bool true, .bool false] 26 (0, 0)) (by (with_reducible repeat (first | refine blk_drewN ?_ _ | refine blk_drew ?_ | refine blk_alloc ?_ _)); exact BK153.out)) (g := gb154) (o := .cells #[.bool a3_0, .bool a3_1, .bool a3_2] 26 (0, 0)) (by (with_reducible repeat (first | refine blk_drewN ?_ _ | refine blk_drew ?_ | refine blk_alloc ?_ _)); exact BK154.out)) (g := gb171) (o := .cells #[.bool t168, .bool t169, .bool t170] 26 (0, 0)) (by (with_reducible repeat (first | refine blk_drewN ?_ _ | refine blk_drew ?_ | refine blk_alloc ?_ _)); exact BK171.out)) (below_size (by repeat (first | (with_reducible first | exact HB.out | apply below_alloc | apply pw_below_drewN | apply below_drew1 | refine below_set ?_ GE153.out | refine below_set ?_ GE154.out | refine below_set ?_ GE171.out) | exact HB.out))))
            have n4_ := Aside0.mk (blk_below (g := gb153) (o := .cells #[.bool true, .bool true, .bool false] 26 (0, 0)) BK153.out hb)
            have n5_ := Aside0.mk (blk_below (g := gb154) (o := .cells #[.bool a3_0, .bool a3_1, .bool a3_2] 26 (0, 0)) BK154.out hb)
            have n6_ := Aside0.mk (blk_below (g := gb171) (o := .cells #[.bool t168, .bool t169, .bool t170] 26 (0, 0)) BK171.out hb)
            have n7_ := Aside0.mk (below_step (by repeat (first | (with_reducible first | exact HB.out | apply below_alloc | apply pw_below_drewN | apply below_drew1 | refine below_set ?_ GE153.out | refine below_set ?_ GE154.out | refine below_set ?_ GE171.out) | exact HB.out)) hb)
            clear HO164
            clear HO167
            clear HO183
            clear BK153
            clear BK154
            clear BK171
            clear HB
            have HO164 := n0_
            have HO167 := n1_
            have HO183 := n2_
            have HO195 := n3_
            have BK153 := n4_
            have BK154 := n5_
            have BK171 := n6_
            have HB := n7_
            clear n0_ n1_ n2_ n3_ n4_ n5_ n6_ n7_
            clear hb ho108
            obtain ⟨Ao109, co109, eo109⟩ := Kd.R_slice HO195.out
            (first | subst eo109 | (injection eo109 with f1_ f2_ f3_; have f4_ := f1_.symm; have f5_ := f3_.symm; clear f1_ f2_ f3_; subst f4_; subst f5_))
            refine hK.out _ _ ⟨(blk_cell BK171.out 0).trans rfl, (blk_cell BK171.out 1).trans rfl, (blk_cell BK171.out 2).trans rfl, (blk_cell BK153.out 0).trans rfl, (blk_cell BK153.out 1).trans rfl, (blk_cell BK153.out 2).trans rfl, (blk_cell BK154.out 0).trans rfl, (blk_cell BK154.out 1).trans rfl, (blk_cell BK154.out 2).trans rfl⟩ (fun hHeld => ?_)
            clear hK K
            refine norm_ (a' := ?_) ?_ ?_
            rotate_left
            ·
             show Act.put _ (some 68) _ = _
             simp only [Act.put, List.setIfInBounds_toArray, List.set_cons_zero, List.set_cons_succ, i64_w, i32_w]
             rfl
            refine one_ (i := 38) (N := some 69) AL40 rfl rfl (one_of HT_.out (by kernel_rfl)) (by decide) (fun K hK => ?_)
            refine goes_ Try.func15 (by kernel_rfl) rfl #[.slice Ao109 y193.length co109] (by rfl) rfl rfl (by (try simp only [List.map_toArray, List.map_cons, List.map_nil]); first | done | rfl | (simp only [List.length_drop, List.length_take]; rfl)) ?_
            with_reducible refine (right_Meet.calls kj5 _ _ y193 t196 t197 t198 _ ?side1 ?side2 A81.out).mono ?_
            (case side1 => repeat (first | exact (Kd.R_reads' HO195.out).2.2 | (with_reducible refine Kd.C_alloc ?_ _) | (with_reducible refine Kd.C_drewN ?_ _) | (with_reducible refine Kd.C_drew ?_)))
            (case side2 => exact (Kd.R_reads' HO195.out).2.1)
            rintro e w110 ⟨rfl, hb⟩
            refine ⟨_, rfl, ?_⟩
            have n0_ := Aside0.mk (Kd.R_below HO164.out hb)
            have n1_ := Aside0.mk (Kd.R_below HO167.out hb)
            have n2_ := Aside0.mk (Kd.R_below HO183.out hb)
            have n3_ := Aside0.mk (Kd.R_below HO195.out hb)
            have n4_ := Aside0.mk (blk_below (g := gb153) (o := .cells #[.bool true, .bool true, .bool false] 26 (0, 0)) BK153.out hb)
            have n5_ := Aside0.mk (blk_below (g := gb154) (o := .cells #[.bool a3_0, .bool a3_1, .bool a3_2] 26 (0, 0)) BK154.out hb)
            have n6_ := Aside0.mk (blk_below (g := gb171) (o := .cells #[.bool t168, .bool t169, .bool t170] 26 (0, 0)) BK171.out hb)
            have n7_ := Aside0.mk (below_step (by repeat (first | (with_reducible first | exact HB.out | apply below_alloc | apply pw_below_drewN | apply below_drew1 | refine below_set ?_ GE153.out | refine below_set ?_ GE154.out | refine below_set ?_ GE171.out) | exact HB.out)) hb)
            clear HO164
            clear HO167
            clear HO183
            clear HO195
            clear BK153
            clear BK154
            clear BK171
            clear HB
            have HO164 := n0_
            have HO167 := n1_
            have HO183 := n2_
            have HO195 := n3_
            have BK153 := n4_
            have BK154 := n5_
            have BK171 := n6_
            have HB := n7_
            clear n0_ n1_ n2_ n3_ n4_ n5_ n6_ n7_
            (try clear hb)
            (try clear hb2)
            (try clear hk)
            (try clear hi)
            refine hK.out _ _ ⟨(blk_cell BK171.out 0).trans rfl, (blk_cell BK171.out 1).trans rfl, (blk_cell BK171.out 2).trans rfl, (blk_cell BK153.out 0).trans rfl, (blk_cell BK153.out 1).trans rfl, (blk_cell BK153.out 2).trans rfl, (blk_cell BK154.out 0).trans rfl, (blk_cell BK154.out 1).trans rfl, (blk_cell BK154.out 2).trans rfl⟩ (fun hHeld => ?_)
            clear hK K
            refine norm_ (a' := ?_) ?_ ?_
            rotate_left
            ·
             show Act.put _ (some 69) _ = _
             simp only [Act.put, List.setIfInBounds_toArray, List.set_cons_zero, List.set_cons_succ, i64_w, i32_w]
             rfl
            refine pure_ (i := 40) (N := some 71) (v := ?_) (a' := ?_) AL41 rfl rfl (any_of HT_.out (by kernel_rfl)) (fun _ _ _ h => h) (Or.inl ⟨by rfl, ?_⟩) ?_ ?_
            rotate_left
            ·
             intro w'
             go_simp
             with_reducible rfl
            rotate_left
            ·
             simp only [Act.put, List.setIfInBounds_toArray, List.set_cons_zero, List.set_cons_succ, i64_w, i32_w]
             rfl
            refine pure_ (i := 41) (N := some 72) (v := ?_) (a' := ?_) AL42 rfl rfl (any_of HT_.out (by kernel_rfl)) (fun _ _ _ h => h) (Or.inl ⟨by rfl, ?_⟩) ?_ ?_
            rotate_left
            ·
             intro w'
             go_simp
             with_reducible rfl
            rotate_left
            ·
             simp only [Act.put, List.setIfInBounds_toArray, List.set_cons_zero, List.set_cons_succ, i64_w, i32_w]
             rfl
            refine pure_ (i := 42) (N := some 8) (v := ?_) (a' := ?_) AL43 rfl rfl (any_of HT_.out (by kernel_rfl)) (fun _ _ _ h => h) (Or.inl ⟨by rfl, ?_⟩) ?_ ?_
            rotate_left
            ·
             intro w'
             go_simp
             with_reducible rfl
            rotate_left
            ·
             simp only [Act.put, List.setIfInBounds_toArray, List.set_cons_zero, List.set_cons_succ, i64_w, i32_w]
             rfl
            refine done_ (done_of HT_.out (by kernel_rfl)) ?_
            try go_wp2
            go_ret
            exact ⟨by first | rfl | (simp [errW_none, errW_some] <;> rfl) | (simp [*, errW_none, errW_some] <;> rfl), by repeat (first | (with_reducible first | exact HB.out | apply below_alloc | apply pw_below_drewN | apply below_drew1 | refine below_set ?_ GE153.out | refine below_set ?_ GE154.out | refine below_set ?_ GE171.out) | exact HB.out)⟩
           ·
            rw [if_neg c80] at H
            have c80b0 : (t168 == a3_0 && (t169 == a3_1 && (!t170))) = false := by simpa using c80
            (try (have c80b1 : decide (t168 = a3_0 && (t169 == a3_1 && (!t170))) = false := by simpa using c80))
            (try (have c80b2 : (t168 == a3_0 && (t169 == a3_1 && (!t170))) = false := by simpa using c80))
            (try (have c80b3 : ¬ (t168 = a3_0 && (t169 == a3_1 && (!t170))) := by simpa using c80))
            clear c80
            obtain rfl := Option.some.inj H
            exact absurd hr (by decide)
         ·
          replace c22 := Bool.eq_false_iff.mpr c22
          subst c22
          have H1 : (if a2_2 = true then (if (t168 == a3_0 && (!t169 && (t170 == a3_2))) = true then ((right_Meet.f kj5 (([(⟨true, false, a2_2⟩ : S26)] : List (S26)))).bind fun bt202 => (some (bt202.1 == true && (bt202.2.1 == false && (bt202.2.2 == a2_2))))) else (some false)) else (if (t168 == a3_0 && (!t169 && (!t170))) = true then ((right_Meet.f kj5 (([(⟨true, false, a2_2⟩ : S26)] : List (S26)))).bind fun bt208 => (some (bt208.1 == true && (bt208.2.1 == false && (bt208.2.2 == a2_2))))) else (some false))) = some r := by rw [if_neg (show ¬ (false = true) by decide)] at H; exact H
          clear H
          have H := H1
          clear H1
          by_cases c136 : a2_2 = true
          ·
           subst c136
           have H1 : (if (t168 == a3_0 && (!t169 && (t170 == a3_2))) = true then ((right_Meet.f kj5 (([(⟨true, false, true⟩ : S26)] : List (S26)))).bind fun bt202 => (some (bt202.1 == true && (bt202.2.1 == false && (bt202.2.2 == true))))) else (some false)) = some r := by rw [if_pos rfl] at H; exact H
           clear H
           have H := H1
           clear H1
           by_cases c137 : (t168 == a3_0 && (!t169 && (t170 == a3_2))) = true
           ·
            rw [if_pos c137] at H
            have c137b0 : (t168 == a3_0 && (!t169 && (t170 == a3_2))) = true := c137
            (try (have c137b1 : decide (t168 = a3_0 && (!t169 && (t170 == a3_2))) = true := by simpa using c137))
            (try (have c137b2 : (t168 == a3_0 && (!t169 && (t170 == a3_2))) = true := by simpa using c137))
            clear c137
            obtain ⟨y199, hy199⟩ : ∃ y_ : List (S26), y_ = (([(⟨true, false, true⟩ : S26)] : List (S26))) := ⟨_, rfl⟩
            replace H : ((right_Meet.f kj5 y199).bind fun bt202 => (some (bt202.1 == true && (bt202.2.1 == false && (bt202.2.2 == true))))) = some r := by first | (rw [hy199]; with_reducible exact H) | (have H2_ := (Option.bind_some _ _).symm.trans H; rw [hy199]; with_reducible exact H2_) | (have H2_ := (Option.bind_some _ _).symm.trans H; with_reducible exact H2_) | with_reducible exact H | (rw [hy199]; exact H) | exact H
            have Ny199 := Aside0.mk hy199
            clear hy199
            replace H := Option.bind_eq_some_iff.mp H
            obtain ⟨⟨t202, t203, t204⟩, A1380, H⟩ := H
            replace H : (some (t202 == true && (t203 == false && (t204 == true)))) = some r := H
            have A138 := Aside0.mk A1380
            clear A1380
            obtain rfl := Option.some.inj H
            try go_wp2_with (first | ((with_reducible refine gate_dst (N := 22) rfl ?_); (try (refine gate_guard (by rfl) ?_; dsimp only)); refine Kd.R_lit k26 _ 26 ?hg (N := 22) ?hd (xs := ([] : List (S26))) (inner := []) (ok := fun _ => True) (okp := fun _ => True) ?hr ?hp (fun _ hk => hk) trivial (Below.refl _ _) (Nat.le_refl _) (by simp) ?_; (case hd => rfl); (case hg => rfl); (case hr => first | (go_simp; done) | (go_simp; rfl)); (case hp => exact (Reps.none _ _)); intro v157 w139 ho140 hb hg_ hnew_; clear hg_ hnew_; (first | rw [← Ny156.out] at ho140 | (simp only [Int.reduceToNat] at ho140; rw [← Ny156.out] at ho140)); have n0_ := Aside0.mk (Kd.R_lower (Kd.R_newB (Kd.R_newB ho140 (g := gb153) (o := .cells #[.bool true, .bool false, .bool true] 26 (0, 0)) (by (with_reducible repeat (first | refine blk_drewN ?_ _ | refine blk_drew ?_ | refine blk_alloc ?_ _)); exact BK153.out)) (g := gb154) (o := .cells #[.bool a3_0, .bool a3_1, .bool a3_2] 26 (0, 0)) (by (with_reducible repeat (first | refine blk_drewN ?_ _ | refine blk_drew ?_ | refine blk_alloc ?_ _)); exact BK154.out)) (below_size (by repeat (first | (with_reducible first | exact HB.out | apply below_alloc | apply pw_below_drewN | apply below_drew1 | refine below_set ?_ GE153.out | refine below_set ?_ GE154.out) | exact HB.out)))); have n1_ := Aside0.mk (blk_below (g := gb153) (o := .cells #[.bool true, .bool false, .bool true] 26 (0, 0)) BK153.out hb); have n2_ := Aside0.mk (blk_below (g := gb154) (o := .cells #[.bool a3_0, .bool a3_1, .bool a3_2] 26 (0, 0)) BK154.out hb); have n3_ := Aside0.mk (below_step (by repeat (first | (with_reducible first | exact HB.out | apply below_alloc | apply pw_below_drewN | apply below_drew1 | refine below_set ?_ GE153.out | refine below_set ?_ GE154.out) | exact HB.out)) hb); clear BK153; clear BK154; clear HB; have HO158 := n0_; have BK153 := n1_; have BK154 := n2_; have HB := n3_; clear n0_ n1_ n2_ n3_; clear hb ho140) | ((with_reducible refine gate_builtin (b := .append) (xs := #[.tmp 22, .tmp 23]) rfl ?_); (try (refine gate_guard (by rfl) ?_; dsimp only)); at_builtin; refine Kd.R_append_rows k26 (w0 := w) w.heap.size rfl (.tmp 22) (.tmp 23) 24 26 (.agg #[(.bool false), (.bool false), (.bool false)]) 3 rfl Try.underlying24 info26 rfl (by decide) (by omega) v157 y156 l0 _ _ _ (fun k_ => k_ ≠ gb153 ∧ k_ ≠ gb154) (fun _ => False) rfl rfl ?aO ?aR (fun _ _ h => h) (fun _ h => h.elim) ?aF ?aB ?aS ?aL ?_; (case aR => repeat (first | exact (Kd.C_below HR0.out HB.out) | (with_reducible refine Kd.C_alloc ?_ _) | (with_reducible refine Kd.C_drewN ?_ _) | (with_reducible refine Kd.C_drew ?_))); (case aB => exact (by repeat (first | (with_reducible first | exact HB.out | apply below_alloc | apply pw_below_drewN | apply below_drew1 | refine below_set ?_ GE153.out | refine below_set ?_ GE154.out) | exact HB.out))); (case aF => exact (fun k_ hk => ⟨Kd.freshB (g := gb153) (o := .cells #[.bool true, .bool false, .bool true] 26 (0, 0)) (by (with_reducible repeat (first | refine blk_drewN ?_ _ | refine blk_drew ?_ | refine blk_alloc ?_ _)); exact BK153.out) k_ hk, Kd.freshB (g := gb154) (o := .cells #[.bool a3_0, .bool a3_1, .bool a3_2] 26 (0, 0)) (by (with_reducible repeat (first | refine blk_drewN ?_ _ | refine blk_drew ?_ | refine blk_alloc ?_ _)); exact BK154.out) k_ hk⟩)); (case aO => exact (by (with_reducible repeat (first | apply Kd.R_alloc | apply Kd.R_drewN | apply Kd.R_drew)); exact Kd.R_mono HO158.out (fun _ hk => ⟨hk.1.2, hk.2⟩))); (case aS => exact (below_size (by repeat (first | (with_reducible first | exact HB.out | apply below_alloc | apply pw_below_drewN | apply below_drew1 | refine below_set ?_ GE153.out | refine below_set ?_ GE154.out) | exact HB.out)))); (case aL => have := LMc12.out; omega); intro v160 w141 ho hb hg hat; rw [← Ny159.out] at ho; have n0_ := Aside0.mk (blk_grown (g := gb153) (o := .cells #[.bool true, .bool false, .bool true] 26 (0, 0)) (by (with_reducible repeat (first | refine blk_drewN ?_ _ | refine blk_drew ?_ | refine blk_alloc ?_ _)); exact BK153.out) hg (Kd.R_away HO158.out (fun _ hk => hk.1.2))); have n1_ := Aside0.mk (blk_grown (g := gb154) (o := .cells #[.bool a3_0, .bool a3_1, .bool a3_2] 26 (0, 0)) (by (with_reducible repeat (first | refine blk_drewN ?_ _ | refine blk_drew ?_ | refine blk_alloc ?_ _)); exact BK154.out) hg (Kd.R_away HO158.out (fun _ hk => hk.2))); have n2_ := Aside0.mk (hb); have n3_ := Aside0.mk (ho); clear BK153; clear BK154; clear HB; clear HO158; have BK153 := n0_; have BK154 := n1_; have HB := n2_; have HO161 := n3_; clear n0_ n1_ n2_ n3_; clear ho hb hg hat) | ((with_reducible refine gate_builtin (b := .append) (xs := #[.tmp 24, .tmp 25]) rfl ?_); (try (refine gate_guard (by rfl) ?_; dsimp only)); at_builtin; refine Kd.R_append_rows k26 (w0 := w) w.heap.size rfl (.tmp 24) (.tmp 25) 24 26 (.agg #[(.bool false), (.bool false), (.bool false)]) 3 rfl Try.underlying24 info26 rfl (by decide) (by omega) v160 y159 l1 _ _ _ (fun k_ => k_ ≠ gb153 ∧ k_ ≠ gb154) (fun _ => False) rfl rfl ?aO ?aR (fun _ _ h => h) (fun _ h => h.elim) ?aF ?aB ?aS ?aL ?_; (case aR => repeat (first | exact (Kd.C_below HR1.out HB.out) | (with_reducible refine Kd.C_alloc ?_ _) | (with_reducible refine Kd.C_drewN ?_ _) | (with_reducible refine Kd.C_drew ?_))); (case aB => exact (by repeat (first | (with_reducible first | exact HB.out | apply below_alloc | apply pw_below_drewN | apply below_drew1 | refine below_set ?_ GE153.out | refine below_set ?_ GE154.out) | exact HB.out))); (case aF => exact (fun k_ hk => ⟨Kd.freshB (g := gb153) (o := .cells #[.bool true, .bool false, .bool true] 26 (0, 0)) (by (with_reducible repeat (first | refine blk_drewN ?_ _ | refine blk_drew ?_ | refine blk_alloc ?_ _)); exact BK153.out) k_ hk, Kd.freshB (g := gb154) (o := .cells #[.bool a3_0, .bool a3_1, .bool a3_2] 26 (0, 0)) (by (with_reducible repeat (first | refine blk_drewN ?_ _ | refine blk_drew ?_ | refine blk_alloc ?_ _)); exact BK154.out) k_ hk⟩)); (case aO => exact HO161.out); (case aS => exact (below_size (by repeat (first | (with_reducible first | exact HB.out | apply below_alloc | apply pw_below_drewN | apply below_drew1 | refine below_set ?_ GE153.out | refine below_set ?_ GE154.out) | exact HB.out)))); (case aL => have := LMc13.out; omega); intro v163 w142 ho hb hg hat; rw [← Ny162.out] at ho; have n0_ := Aside0.mk (blk_grown (g := gb153) (o := .cells #[.bool true, .bool false, .bool true] 26 (0, 0)) (by (with_reducible repeat (first | refine blk_drewN ?_ _ | refine blk_drew ?_ | refine blk_alloc ?_ _)); exact BK153.out) hg (Kd.R_away HO161.out (fun _ hk => hk.1))); have n1_ := Aside0.mk (blk_grown (g := gb154) (o := .cells #[.bool a3_0, .bool a3_1, .bool a3_2] 26 (0, 0)) (by (with_reducible repeat (first | refine blk_drewN ?_ _ | refine blk_drew ?_ | refine blk_alloc ?_ _)); exact BK154.out) hg (Kd.R_away HO161.out (fun _ hk => hk.2))); have n2_ := Aside0.mk (hb); have n3_ := Aside0.mk (ho); clear BK153; clear BK154; clear HB; clear HO161; have BK153 := n0_; have BK154 := n1_; have HB := n2_; have HO164 := n3_; clear n0_ n1_ n2_ n3_; clear ho hb hg hat; have hnb143 := NB153_154.out; have hnc143 := NB154_153.out; have hcz144_0 : w142.cell? ⟨gb153, 0, none⟩ = some (.bool true) := (blk_cell BK153.out 0).trans rfl; have hcz144_1 : w142.cell? ⟨gb153, 1, none⟩ = some (.bool false) := (blk_cell BK153.out 1).trans rfl; have hcz144_2 : w142.cell? ⟨gb153, 2, none⟩ = some (.bool true) := (blk_cell BK153.out 2).trans rfl; have hfz144_0 := blk_frozen BK153.out 0; have hfz144_1 := blk_frozen BK153.out 1; have hfz144_2 := blk_frozen BK153.out 2; have hcz145_0 : w142.cell? ⟨gb154, 0, none⟩ = some (.bool a3_0) := (blk_cell BK154.out 0).trans rfl; have hcz145_1 : w142.cell? ⟨gb154, 1, none⟩ = some (.bool a3_1) := (blk_cell BK154.out 1).trans rfl; have hcz145_2 : w142.cell? ⟨gb154, 2, none⟩ = some (.bool a3_2) := (blk_cell BK154.out 2).trans rfl; have hfz145_0 := blk_frozen BK154.out 0; have hfz145_1 := blk_frozen BK154.out 1; have hfz145_2 := blk_frozen BK154.out 2) | ((with_reducible refine gate_dst (N := 29) rfl ?_); (try (refine gate_guard (by rfl) ?_; dsimp only)); refine Kd.R_lit k26 _ 26 ?hg (N := 29) ?hd (xs := ([(⟨true, false, true⟩ : S26), (⟨a3_0, a3_1, a3_2⟩ : S26)] : List (S26))) (inner := [.bool true, .bool false, .bool true, .bool a3_0, .bool a3_1, .bool a3_2]) (ok := fun _ => True) (okp := fun _ => True) ?hr ?hp (fun _ hk => hk) trivial (Below.refl _ _) (Nat.le_refl _) (by simp) ?_; (case hd => rfl); (case hg => rfl); (case hr => first | (go_simp; done) | (go_simp; rfl)); (case hp => exact (Reps.c3 (show Kd.M k26 _ _ _ (⟨true, false, true⟩ : S26) [.bool true, .bool false, .bool true] from (k26_mkM _ _ _ (⟨true, false, true⟩ : S26) )) (Reps.c3 (show Kd.M k26 _ _ _ (⟨a3_0, a3_1, a3_2⟩ : S26) [.bool a3_0, .bool a3_1, .bool a3_2] from (k26_mkM _ _ _ (⟨a3_0, a3_1, a3_2⟩ : S26) )) (Reps.none _ _)))); intro v166 w146 ho147 hb hg_ hnew_; clear hg_ hnew_; (first | rw [← Ny165.out] at ho147 | (simp only [Int.reduceToNat] at ho147; rw [← Ny165.out] at ho147)); have n0_ := Aside0.mk (Kd.R_elder' HO164.out (Kd.R_base ho147) hb); have n1_ := Aside0.mk (Kd.R_lower (Kd.R_newB (Kd.R_newB (Kd.R_new' ho147 (Kd.R_lt HO164.out)) (g := gb153) (o := .cells #[.bool true, .bool false, .bool true] 26 (0, 0)) (by (with_reducible repeat (first | refine blk_drewN ?_ _ | refine blk_drew ?_ | refine blk_alloc ?_ _)); exact BK153.out)) (g := gb154) (o := .cells #[.bool a3_0, .bool a3_1, .bool a3_2] 26 (0, 0)) (by (with_reducible repeat (first | refine blk_drewN ?_ _ | refine blk_drew ?_ | refine blk_alloc ?_ _)); exact BK154.out)) (below_size (by repeat (first | (with_reducible first | exact HB.out | apply below_alloc | apply pw_below_drewN | apply below_drew1 | refine below_set ?_ GE153.out | refine below_set ?_ GE154.out) | exact HB.out)))); have n2_ := Aside0.mk (blk_below (g := gb153) (o := .cells #[.bool true, .bool false, .bool true] 26 (0, 0)) BK153.out hb); have n3_ := Aside0.mk (blk_below (g := gb154) (o := .cells #[.bool a3_0, .bool a3_1, .bool a3_2] 26 (0, 0)) BK154.out hb); have n4_ := Aside0.mk (below_step (by repeat (first | (with_reducible first | exact HB.out | apply below_alloc | apply pw_below_drewN | apply below_drew1 | refine below_set ?_ GE153.out | refine below_set ?_ GE154.out) | exact HB.out)) hb); clear HO164; clear BK153; clear BK154; clear HB; have HO164 := n0_; have HO167 := n1_; have BK153 := n2_; have BK154 := n3_; have HB := n4_; clear n0_ n1_ n2_ n3_ n4_; clear hb ho147; obtain ⟨Ao148, co148, eo148⟩ := Kd.R_slice HO167.out; subst eo148) | ((with_reducible refine gate_callee (f := 15) rfl ?_); refine goesL_ (some 30) rfl rfl Try.func15 (by kernel_rfl) rfl #[.slice Ao148 y165.length co148] rfl (by (try simp only [List.map_toArray, List.map_cons, List.map_nil]); first | done | rfl | (simp only [List.length_drop, List.length_take]; rfl)) ?_; (with_reducible refine (right_Meet.calls kj5 _ _ y165 t168 t169 t170 _ ?side1 ?side2 A14.out).mono ?_); (case side1 => repeat (first | exact (Kd.R_reads' HO167.out).2.2 | (with_reducible refine Kd.C_alloc ?_ _) | (with_reducible refine Kd.C_drewN ?_ _) | (with_reducible refine Kd.C_drew ?_))); (case side2 => exact (Kd.R_reads' HO167.out).2.1); rintro e w149 ⟨rfl, hb⟩; refine ⟨_, rfl, ?_⟩; have n0_ := Aside0.mk (Kd.R_below HO164.out hb); have n1_ := Aside0.mk (Kd.R_below HO167.out hb); have n2_ := Aside0.mk (blk_below (g := gb153) (o := .cells #[.bool true, .bool false, .bool true] 26 (0, 0)) BK153.out hb); have n3_ := Aside0.mk (blk_below (g := gb154) (o := .cells #[.bool a3_0, .bool a3_1, .bool a3_2] 26 (0, 0)) BK154.out hb); have n4_ := Aside0.mk (below_step (by repeat (first | (with_reducible first | exact HB.out | apply below_alloc | apply pw_below_drewN | apply below_drew1 | refine below_set ?_ GE153.out | refine below_set ?_ GE154.out) | exact HB.out)) hb); clear HO164; clear HO167; clear BK153; clear BK154; clear HB; have HO164 := n0_; have HO167 := n1_; have BK153 := n2_; have BK154 := n3_; have HB := n4_; clear n0_ n1_ n2_ n3_ n4_; (try clear hb); (try clear hb2); (try clear hk); (try clear hi)) | ((with_reducible refine gate_dst (N := 11) rfl ?_); (try (refine gate_guard (by rfl) ?_; dsimp only)); refine box_event ?hg (N := 11) ?hd (cs := #[.bool false, .bool false, .bool false]) (t := 26) ?hr ?_; (case hd => rfl); (case hg => rfl); (case hr => first | (go_simp; done) | (go_simp; rfl)); intro gb171 hg w150 hbox hb; have n0_ := Aside0.mk (Kd.R_below (Kd.R_elderB HO164.out gb171 (Nat.le_of_eq hg.symm)) hb); have n1_ := Aside0.mk (Kd.R_below (Kd.R_elderB HO167.out gb171 (Nat.le_of_eq hg.symm)) hb); have n2_ := Aside0.mk (blk_below (g := gb153) (o := .cells #[.bool true, .bool false, .bool true] 26 (0, 0)) BK153.out hb); have n3_ := Aside0.mk (blk_below (g := gb154) (o := .cells #[.bool a3_0, .bool a3_1, .bool a3_2] 26 (0, 0)) BK154.out hb); have n4_ := Aside0.mk (below_step (by repeat (first | (with_reducible first | exact HB.out | apply below_alloc | apply pw_below_drewN | apply below_drew1 | refine below_set ?_ GE153.out | refine below_set ?_ GE154.out) | exact HB.out)) hb); have n5_ := Aside0.mk (hbox); have n6_ := Aside0.mk ((by rw [hg]; exact (below_size (by repeat (first | (with_reducible first | exact HB.out | apply below_alloc | apply pw_below_drewN | apply below_drew1 | refine below_set ?_ GE153.out | refine below_set ?_ GE154.out) | exact HB.out))) : w.heap.size ≤ gb171)); have n7_ := Aside0.mk ((by rw [hg]; exact (below_size (by repeat (first | (with_reducible first | exact HB.out | apply below_alloc | apply pw_below_drewN | apply below_drew1 | refine below_set ?_ GE153.out | refine below_set ?_ GE154.out) | exact HB.out))) : w.heap.size ≤ gb171)); have n8_ := Aside0.mk ((by rw [hg]; exact Nat.ne_of_lt (blk_lt (g := gb153) (o := .cells #[.bool true, .bool false, .bool true] 26 (0, 0)) (by (with_reducible repeat (first | refine blk_drewN ?_ _ | refine blk_drew ?_ | refine blk_alloc ?_ _)); exact BK153.out)) : gb153 ≠ gb171)); have n9_ := Aside0.mk ((by rw [hg]; exact Nat.ne_of_gt (blk_lt (g := gb153) (o := .cells #[.bool true, .bool false, .bool true] 26 (0, 0)) (by (with_reducible repeat (first | refine blk_drewN ?_ _ | refine blk_drew ?_ | refine blk_alloc ?_ _)); exact BK153.out)) : gb171 ≠ gb153)); have n10_ := Aside0.mk ((by rw [hg]; exact Nat.ne_of_lt (blk_lt (g := gb154) (o := .cells #[.bool a3_0, .bool a3_1, .bool a3_2] 26 (0, 0)) (by (with_reducible repeat (first | refine blk_drewN ?_ _ | refine blk_drew ?_ | refine blk_alloc ?_ _)); exact BK154.out)) : gb154 ≠ gb171)); have n11_ := Aside0.mk ((by rw [hg]; exact Nat.ne_of_gt (blk_lt (g := gb154) (o := .cells #[.bool a3_0, .bool a3_1, .bool a3_2] 26 (0, 0)) (by (with_reducible repeat (first | refine blk_drewN ?_ _ | refine blk_drew ?_ | refine blk_alloc ?_ _)); exact BK154.out)) : gb171 ≠ gb154)); clear HO164; clear HO167; clear BK153; clear BK154; clear HB; have HO164 := n0_; have HO167 := n1_; have BK153 := n2_; have BK154 := n3_; have HB := n4_; have BK171 := n5_; have GW171 := n6_; have GE171 := n7_; have NB153_171 := n8_; have NB171_153 := n9_; have NB154_171 := n10_; have NB171_154 := n11_; clear n0_ n1_ n2_ n3_ n4_ n5_ n6_ n7_ n8_ n9_ n10_ n11_; clear hb hbox hg; have hnb151 := NB171_153.out; have hnc151 := NB153_171.out; have hnb152 := NB171_154.out; have hnc152 := NB154_171.out; have hcz153_0 : w150.cell? ⟨gb171, 0, none⟩ = some (.bool false) := (blk_cell BK171.out 0).trans rfl; have hcz153_1 : w150.cell? ⟨gb171, 1, none⟩ = some (.bool false) := (blk_cell BK171.out 1).trans rfl; have hcz153_2 : w150.cell? ⟨gb171, 2, none⟩ = some (.bool false) := (blk_cell BK171.out 2).trans rfl; have hfz153_0 := blk_frozen BK171.out 0; have hfz153_1 := blk_frozen BK171.out 1; have hfz153_2 := blk_frozen BK171.out 2))
            have n0_ : Aside0 (Kd.R k26 26 (((w150.setCell ⟨gb171, 0, none⟩ (.bool t168)).setCell ⟨gb171, 1, none⟩ (.bool t169)).setCell ⟨gb171, 2, none⟩ (.bool t170)) w.heap.size (fun k_ => some k_ ≠ (.slice Ao148 y165.length co148 : Value).ownBlock ∧ k_ ≠ gb153 ∧ k_ ≠ gb154 ∧ k_ ≠ gb171) v163 y162) := ⟨by (with_reducible repeat (first | apply Kd.R_alloc | apply Kd.R_drewN | apply Kd.R_drew)); exact Kd.R_mono (Kd.R_far (p := ⟨gb171, 2, none⟩) (Kd.R_far (p := ⟨gb171, 1, none⟩) (Kd.R_far (p := ⟨gb171, 0, none⟩) (Kd.R_mono HO164.out (fun k_ hk => (⟨hk, hk.2⟩ : _ ∧ k_ ≠ gb171))) (fun _ hk => hk.2) (.bool t168)) (fun _ hk => hk.2) (.bool t169)) (fun _ hk => hk.2) (.bool t170)) (fun _ hk => ⟨hk.1.1.2, ⟨hk.1.1.1.1, ⟨hk.1.1.1.2, hk.1.2⟩⟩⟩)⟩
            have n1_ : Aside0 (Kd.R k26 26 (((w150.setCell ⟨gb171, 0, none⟩ (.bool t168)).setCell ⟨gb171, 1, none⟩ (.bool t169)).setCell ⟨gb171, 2, none⟩ (.bool t170)) w.heap.size (fun k_ => some k_ ≠ (v163 : Value).ownBlock ∧ k_ ≠ gb153 ∧ k_ ≠ gb154 ∧ k_ ≠ gb171) (.slice Ao148 y165.length co148) y165) := ⟨by (with_reducible repeat (first | apply Kd.R_alloc | apply Kd.R_drewN | apply Kd.R_drew)); exact Kd.R_mono (Kd.R_far (p := ⟨gb171, 2, none⟩) (Kd.R_far (p := ⟨gb171, 1, none⟩) (Kd.R_far (p := ⟨gb171, 0, none⟩) (Kd.R_mono HO167.out (fun k_ hk => (⟨hk, hk.2⟩ : _ ∧ k_ ≠ gb171))) (fun _ hk => hk.2) (.bool t168)) (fun _ hk => hk.2) (.bool t169)) (fun _ hk => hk.2) (.bool t170)) (fun _ hk => ⟨hk.1.1.1.1.2, ⟨hk.1.1.1.2, ⟨hk.1.1.2, hk.1.2⟩⟩⟩)⟩
            have n2_ : Aside0 ((((w150.setCell ⟨gb171, 0, none⟩ (.bool t168)).setCell ⟨gb171, 1, none⟩ (.bool t169)).setCell ⟨gb171, 2, none⟩ (.bool t170)).heap[gb153]? = some (.cells #[.bool true, .bool false, .bool true] 26 (0, 0))) := ⟨by (with_reducible repeat (first | refine blk_drewN ?_ _ | refine blk_drew ?_ | refine blk_alloc ?_ _)); refine blk_far ?_ NB153_171.out _; (with_reducible repeat (first | refine blk_drewN ?_ _ | refine blk_drew ?_ | refine blk_alloc ?_ _)); refine blk_far ?_ NB153_171.out _; (with_reducible repeat (first | refine blk_drewN ?_ _ | refine blk_drew ?_ | refine blk_alloc ?_ _)); refine blk_far ?_ NB153_171.out _; (with_reducible repeat (first | refine blk_drewN ?_ _ | refine blk_drew ?_ | refine blk_alloc ?_ _)); exact BK153.out⟩
            have n3_ : Aside0 ((((w150.setCell ⟨gb171, 0, none⟩ (.bool t168)).setCell ⟨gb171, 1, none⟩ (.bool t169)).setCell ⟨gb171, 2, none⟩ (.bool t170)).heap[gb154]? = some (.cells #[.bool a3_0, .bool a3_1, .bool a3_2] 26 (0, 0))) := ⟨by (with_reducible repeat (first | refine blk_drewN ?_ _ | refine blk_drew ?_ | refine blk_alloc ?_ _)); refine blk_far ?_ NB154_171.out _; (with_reducible repeat (first | refine blk_drewN ?_ _ | refine blk_drew ?_ | refine blk_alloc ?_ _)); refine blk_far ?_ NB154_171.out _; (with_reducible repeat (first | refine blk_drewN ?_ _ | refine blk_drew ?_ | refine blk_alloc ?_ _)); refine blk_far ?_ NB154_171.out _; (with_reducible repeat (first | refine blk_drewN ?_ _ | refine blk_drew ?_ | refine blk_alloc ?_ _)); exact BK154.out⟩
            have n4_ : Aside0 ((((w150.setCell ⟨gb171, 0, none⟩ (.bool t168)).setCell ⟨gb171, 1, none⟩ (.bool t169)).setCell ⟨gb171, 2, none⟩ (.bool t170)).heap[gb171]? = some (.cells #[.bool t168, .bool t169, .bool t170] 26 (0, 0))) := ⟨by (with_reducible repeat (first | refine blk_drewN ?_ _ | refine blk_drew ?_ | refine blk_alloc ?_ _)); refine blk_put (cs := #[.bool t168, .bool t169, .bool false]) ?_ 2 _ rfl; (with_reducible repeat (first | refine blk_drewN ?_ _ | refine blk_drew ?_ | refine blk_alloc ?_ _)); refine blk_put (cs := #[.bool t168, .bool false, .bool false]) ?_ 1 _ rfl; (with_reducible repeat (first | refine blk_drewN ?_ _ | refine blk_drew ?_ | refine blk_alloc ?_ _)); refine blk_put (cs := #[.bool false, .bool false, .bool false]) ?_ 0 _ rfl; (with_reducible repeat (first | refine blk_drewN ?_ _ | refine blk_drew ?_ | refine blk_alloc ?_ _)); exact BK171.out⟩
            have n5_ : Aside0 (Below w.heap.size w (((w150.setCell ⟨gb171, 0, none⟩ (.bool t168)).setCell ⟨gb171, 1, none⟩ (.bool t169)).setCell ⟨gb171, 2, none⟩ (.bool t170))) := ⟨by repeat (first | (with_reducible first | exact HB.out | apply below_alloc | apply pw_below_drewN | apply below_drew1 | refine below_set ?_ GE153.out | refine below_set ?_ GE154.out | refine below_set ?_ GE171.out) | exact HB.out)⟩
            (try clear HO164)
            (try clear HO167)
            (try clear BK153)
            (try clear BK154)
            (try clear BK171)
            (try clear HB)
            generalize (((w150.setCell ⟨gb171, 0, none⟩ (.bool t168)).setCell ⟨gb171, 1, none⟩ (.bool t169)).setCell ⟨gb171, 2, none⟩ (.bool t170)) = w154 at n0_ n1_ n2_ n3_ n4_ n5_ ⊢
            have HO164 := n0_
            have HO167 := n1_
            have BK153 := n2_
            have BK154 := n3_
            have BK171 := n4_
            have HB := n5_
            clear n0_ n1_ n2_ n3_ n4_ n5_
            have n0_ := Aside0.mk (Kd.R_drew HO164.out)
            have n1_ := Aside0.mk (Kd.R_drew HO167.out)
            have n2_ := Aside0.mk (blk_drew BK153.out)
            have n3_ := Aside0.mk (blk_drew BK154.out)
            have n4_ := Aside0.mk (blk_drew BK171.out)
            have n5_ := Aside0.mk (below_drew1 HB.out)
            clear HO164
            clear HO167
            clear BK153
            clear BK154
            clear BK171
            clear HB
            have HO164 := n0_
            have HO167 := n1_
            have BK153 := n2_
            have BK154 := n3_
            have BK171 := n4_
            have HB := n5_
            clear n0_ n1_ n2_ n3_ n4_ n5_
            obtain ⟨Ao156, co156, eo156⟩ := Kd.R_slice HO164.out
            (first | subst eo156 | (injection eo156 with f1_ f2_ f3_; have f4_ := f1_.symm; have f5_ := f3_.symm; clear f1_ f2_ f3_; subst f4_; subst f5_))
            refine start_ (n := 43) (S := fun w' => w'.cell? ⟨gb171, 0, none⟩ = some (.bool t168) ∧ w'.cell? ⟨gb171, 1, none⟩ = some (.bool t169) ∧ w'.cell? ⟨gb171, 2, none⟩ = some (.bool t170) ∧ w'.cell? ⟨gb153, 0, none⟩ = some (.bool true) ∧ w'.cell? ⟨gb153, 1, none⟩ = some (.bool false) ∧ w'.cell? ⟨gb153, 2, none⟩ = some (.bool true) ∧ w'.cell? ⟨gb154, 0, none⟩ = some (.bool a3_0) ∧ w'.cell? ⟨gb154, 1, none⟩ = some (.bool a3_1) ∧ w'.cell? ⟨gb154, 2, none⟩ = some (.bool a3_2)) (ds := []) AL0 (by kernel_rfl) rfl rfl ⟨(blk_cell BK171.out 0).trans rfl, (blk_cell BK171.out 1).trans rfl, (blk_cell BK171.out 2).trans rfl, (blk_cell BK153.out 0).trans rfl, (blk_cell BK153.out 1).trans rfl, (blk_cell BK153.out 2).trans rfl, (blk_cell BK154.out 0).trans rfl, (blk_cell BK154.out 1).trans rfl, (blk_cell BK154.out 2).trans rfl⟩ (fun hHeld => ?_); refine with_tabW silhouettelaw06_RightParts.tab6 silhouettelaw06_RightParts.bits6 (fun HT_ HW_ => ?_)
            generalize w154.drew = w155 at HO164 HO167 BK153 BK154 BK171 HB hHeld ⊢
            refine pure_ (i := 0) (N := some 31) (v := ?_) (a' := ?_) AL1 rfl rfl (any_of HT_.out (by kernel_rfl)) (fun _ _ _ h => h) (Or.inl ⟨by rfl, ?_⟩) ?_ ?_
            rotate_left
            ·
             intro w'
             go_simp
             with_reducible rfl
            rotate_left
            ·
             simp only [Act.put, List.setIfInBounds_toArray, List.set_cons_zero, List.set_cons_succ, i64_w, i32_w]
             rfl
            refine pure_ (i := 1) (N := some 32) (v := ?_) (a' := ?_) AL2 rfl rfl (any_of HT_.out (by kernel_rfl)) (fun _ _ _ h => h) (Or.inl ⟨by rfl, ?_⟩) ?_ ?_
            rotate_left
            ·
             intro w'
             go_simp
             with_reducible rfl
            rotate_left
            ·
             simp only [Act.put, List.setIfInBounds_toArray, List.set_cons_zero, List.set_cons_succ, i64_w, i32_w]
             rfl
            refine pure_ (i := 2) (N := some 33) (v := ?_) (a' := ?_) AL3 rfl rfl (any_of HT_.out (by kernel_rfl)) (fun _ _ _ h => h) (Or.inl ⟨by rfl, ?_⟩) ?_ ?_
            rotate_left
            ·
             intro w'
             go_simp
             with_reducible rfl
            rotate_left
            ·
             simp only [Act.put, List.setIfInBounds_toArray, List.set_cons_zero, List.set_cons_succ, i64_w, i32_w]
             rfl
            refine pure_ (i := 4) (N := some 35) (v := ?_) (a' := ?_) AL4 rfl rfl (any_of HT_.out (by kernel_rfl)) (fun _ _ _ h => h) (Or.inl ⟨by rfl, ?_⟩) ?_ ?_
            rotate_left
            ·
             intro w'
             go_simp
             with_reducible rfl
            rotate_left
            ·
             simp only [Act.put, List.setIfInBounds_toArray, List.set_cons_zero, List.set_cons_succ, i64_w, i32_w]
             rfl
            refine pure_ (i := 6) (N := some 37) (v := ?_) (a' := ?_) AL5 rfl rfl (any_of HT_.out (by kernel_rfl)) (fun _ _ _ h => h) (Or.inl ⟨by rfl, ?_⟩) ?_ ?_
            rotate_left
            ·
             intro w'
             go_simp
             with_reducible rfl
            rotate_left
            ·
             simp only [Act.put, List.setIfInBounds_toArray, List.set_cons_zero, List.set_cons_succ, i64_w, i32_w]
             rfl
            refine one_ (i := 3) (N := some 34) AL6 rfl rfl (one_of HT_.out (by kernel_rfl)) (by decide) (fun K hK => ?_)
            refine goes_ Try.func15 (by kernel_rfl) rfl #[.slice Ao156 y162.length co156] (by rfl) rfl rfl (by (try simp only [List.map_toArray, List.map_cons, List.map_nil]); first | done | rfl | (simp only [List.length_drop, List.length_take]; rfl)) ?_
            with_reducible refine (right_Meet.calls kj5 _ _ y162 t172 t173 t174 _ ?side1 ?side2 A16.out).mono ?_
            (case side1 => repeat (first | exact (Kd.R_reads' HO164.out).2.2 | (with_reducible refine Kd.C_alloc ?_ _) | (with_reducible refine Kd.C_drewN ?_ _) | (with_reducible refine Kd.C_drew ?_)))
            (case side2 => exact (Kd.R_reads' HO164.out).2.1)
            rintro e w157 ⟨rfl, hb⟩
            refine ⟨_, rfl, ?_⟩
            have n0_ := Aside0.mk (Kd.R_below HO164.out hb)
            have n1_ := Aside0.mk (Kd.R_below HO167.out hb)
            have n2_ := Aside0.mk (blk_below (g := gb153) (o := .cells #[.bool true, .bool false, .bool true] 26 (0, 0)) BK153.out hb)
            have n3_ := Aside0.mk (blk_below (g := gb154) (o := .cells #[.bool a3_0, .bool a3_1, .bool a3_2] 26 (0, 0)) BK154.out hb)
            have n4_ := Aside0.mk (blk_below (g := gb171) (o := .cells #[.bool t168, .bool t169, .bool t170] 26 (0, 0)) BK171.out hb)
            have n5_ := Aside0.mk (below_step (by repeat (first | (with_reducible first | exact HB.out | apply below_alloc | apply pw_below_drewN | apply below_drew1 | refine below_set ?_ GE153.out | refine below_set ?_ GE154.out | refine below_set ?_ GE171.out) | exact HB.out)) hb)
            clear HO164
            clear HO167
            clear BK153
            clear BK154
            clear BK171
            clear HB
            have HO164 := n0_
            have HO167 := n1_
            have BK153 := n2_
            have BK154 := n3_
            have BK171 := n4_
            have HB := n5_
            clear n0_ n1_ n2_ n3_ n4_ n5_
            (try clear hb)
            (try clear hb2)
            (try clear hk)
            (try clear hi)
            refine hK.out _ _ ⟨(blk_cell BK171.out 0).trans rfl, (blk_cell BK171.out 1).trans rfl, (blk_cell BK171.out 2).trans rfl, (blk_cell BK153.out 0).trans rfl, (blk_cell BK153.out 1).trans rfl, (blk_cell BK153.out 2).trans rfl, (blk_cell BK154.out 0).trans rfl, (blk_cell BK154.out 1).trans rfl, (blk_cell BK154.out 2).trans rfl⟩ (fun hHeld => ?_)
            clear hK K
            refine norm_ (a' := ?_) ?_ ?_
            rotate_left
            ·
             show Act.put _ (some 34) _ = _
             simp only [Act.put, List.setIfInBounds_toArray, List.set_cons_zero, List.set_cons_succ, i64_w, i32_w]
             rfl
            refine one_ (i := 5) (N := some 36) AL7 rfl rfl (one_of HT_.out (by kernel_rfl)) (by decide) (fun K hK => ?_)
            refine goes_ Try.func15 (by kernel_rfl) rfl #[.slice A0 l0.length c0] (by rfl) rfl rfl (by (try simp only [List.map_toArray, List.map_cons, List.map_nil]); first | done | rfl | (simp only [List.length_drop, List.length_take]; rfl)) ?_
            with_reducible refine (right_Meet.calls kj5 _ _ l0 t175 t176 t177 _ ?side1 ?side2 A17.out).mono ?_
            (case side1 => repeat (first | exact (Kd.C_below HR0.out HB.out) | (with_reducible refine Kd.C_alloc ?_ _) | (with_reducible refine Kd.C_drewN ?_ _) | (with_reducible refine Kd.C_drew ?_)))
            (case side2 => exact HC0.out)
            rintro e w158 ⟨rfl, hb⟩
            refine ⟨_, rfl, ?_⟩
            have n0_ := Aside0.mk (Kd.R_below HO164.out hb)
            have n1_ := Aside0.mk (Kd.R_below HO167.out hb)
            have n2_ := Aside0.mk (blk_below (g := gb153) (o := .cells #[.bool true, .bool false, .bool true] 26 (0, 0)) BK153.out hb)
            have n3_ := Aside0.mk (blk_below (g := gb154) (o := .cells #[.bool a3_0, .bool a3_1, .bool a3_2] 26 (0, 0)) BK154.out hb)
            have n4_ := Aside0.mk (blk_below (g := gb171) (o := .cells #[.bool t168, .bool t169, .bool t170] 26 (0, 0)) BK171.out hb)
            have n5_ := Aside0.mk (below_step (by repeat (first | (with_reducible first | exact HB.out | apply below_alloc | apply pw_below_drewN | apply below_drew1 | refine below_set ?_ GE153.out | refine below_set ?_ GE154.out | refine below_set ?_ GE171.out) | exact HB.out)) hb)
            clear HO164
            clear HO167
            clear BK153
            clear BK154
            clear BK171
            clear HB
            have HO164 := n0_
            have HO167 := n1_
            have BK153 := n2_
            have BK154 := n3_
            have BK171 := n4_
            have HB := n5_
            clear n0_ n1_ n2_ n3_ n4_ n5_
            (try clear hb)
            (try clear hb2)
            (try clear hk)
            (try clear hi)
            refine hK.out _ _ ⟨(blk_cell BK171.out 0).trans rfl, (blk_cell BK171.out 1).trans rfl, (blk_cell BK171.out 2).trans rfl, (blk_cell BK153.out 0).trans rfl, (blk_cell BK153.out 1).trans rfl, (blk_cell BK153.out 2).trans rfl, (blk_cell BK154.out 0).trans rfl, (blk_cell BK154.out 1).trans rfl, (blk_cell BK154.out 2).trans rfl⟩ (fun hHeld => ?_)
            clear hK K
            refine norm_ (a' := ?_) ?_ ?_
            rotate_left
            ·
             show Act.put _ (some 36) _ = _
             simp only [Act.put, List.setIfInBounds_toArray, List.set_cons_zero, List.set_cons_succ, i64_w, i32_w]
             rfl
            refine one_ (i := 7) (N := some 38) AL8 rfl rfl (one_of HT_.out (by kernel_rfl)) (by decide) (fun K hK => ?_)
            refine goes_ Try.func15 (by kernel_rfl) rfl #[.slice A1 l1.length c1] (by rfl) rfl rfl (by (try simp only [List.map_toArray, List.map_cons, List.map_nil]); first | done | rfl | (simp only [List.length_drop, List.length_take]; rfl)) ?_
            with_reducible refine (right_Meet.calls kj5 _ _ l1 t178 t179 t180 _ ?side1 ?side2 A18.out).mono ?_
            (case side1 => repeat (first | exact (Kd.C_below HR1.out HB.out) | (with_reducible refine Kd.C_alloc ?_ _) | (with_reducible refine Kd.C_drewN ?_ _) | (with_reducible refine Kd.C_drew ?_)))
            (case side2 => exact HC1.out)
            rintro e w159 ⟨rfl, hb⟩
            refine ⟨_, rfl, ?_⟩
            have n0_ := Aside0.mk (Kd.R_below HO164.out hb)
            have n1_ := Aside0.mk (Kd.R_below HO167.out hb)
            have n2_ := Aside0.mk (blk_below (g := gb153) (o := .cells #[.bool true, .bool false, .bool true] 26 (0, 0)) BK153.out hb)
            have n3_ := Aside0.mk (blk_below (g := gb154) (o := .cells #[.bool a3_0, .bool a3_1, .bool a3_2] 26 (0, 0)) BK154.out hb)
            have n4_ := Aside0.mk (blk_below (g := gb171) (o := .cells #[.bool t168, .bool t169, .bool t170] 26 (0, 0)) BK171.out hb)
            have n5_ := Aside0.mk (below_step (by repeat (first | (with_reducible first | exact HB.out | apply below_alloc | apply pw_below_drewN | apply below_drew1 | refine below_set ?_ GE153.out | refine below_set ?_ GE154.out | refine below_set ?_ GE171.out) | exact HB.out)) hb)
            clear HO164
            clear HO167
            clear BK153
            clear BK154
            clear BK171
            clear HB
            have HO164 := n0_
            have HO167 := n1_
            have BK153 := n2_
            have BK154 := n3_
            have BK171 := n4_
            have HB := n5_
            clear n0_ n1_ n2_ n3_ n4_ n5_
            (try clear hb)
            (try clear hb2)
            (try clear hk)
            (try clear hi)
            refine hK.out _ _ ⟨(blk_cell BK171.out 0).trans rfl, (blk_cell BK171.out 1).trans rfl, (blk_cell BK171.out 2).trans rfl, (blk_cell BK153.out 0).trans rfl, (blk_cell BK153.out 1).trans rfl, (blk_cell BK153.out 2).trans rfl, (blk_cell BK154.out 0).trans rfl, (blk_cell BK154.out 1).trans rfl, (blk_cell BK154.out 2).trans rfl⟩ (fun hHeld => ?_)
            clear hK K
            refine norm_ (a' := ?_) ?_ ?_
            rotate_left
            ·
             show Act.put _ (some 38) _ = _
             simp only [Act.put, List.setIfInBounds_toArray, List.set_cons_zero, List.set_cons_succ, i64_w, i32_w]
             rfl
            refine one_ (i := 8) (N := some 39) AL9 rfl rfl (one_of HT_.out (by kernel_rfl)) (by decide) (fun K hK => ?_)
            refine Kd.R_lit_step k26 _ 26 ?hg (N := 39) ?hd (xs := ([(⟨t175, t176, t177⟩ : S26), (⟨t178, t179, t180⟩ : S26)] : List (S26))) (inner := [.bool t175, .bool t176, .bool t177, .bool t178, .bool t179, .bool t180]) (ok := fun _ => True) (okp := fun _ => True) ?hr ?hp (fun _ hk => hk) trivial (Below.refl _ _) (Nat.le_refl _) (by simp) ?_; (case hd => rfl); (case hg => rfl); (case hr => first | (go_simp; done) | (go_simp; rfl)); (case hp => exact (Reps.c3 (show Kd.M k26 _ _ _ (⟨t175, t176, t177⟩ : S26) [.bool t175, .bool t176, .bool t177] from (k26_mkM _ _ _ (⟨t175, t176, t177⟩ : S26) )) (Reps.c3 (show Kd.M k26 _ _ _ (⟨t178, t179, t180⟩ : S26) [.bool t178, .bool t179, .bool t180] from (k26_mkM _ _ _ (⟨t178, t179, t180⟩ : S26) )) (Reps.none _ _))))
            intro v182 w160 ho161 hb hg_ hnew_
            clear hg_ hnew_
            (first | rw [← Ny181.out] at ho161 | (simp only [Int.reduceToNat] at ho161; rw [← Ny181.out] at ho161))
            have n0_ := Aside0.mk (Kd.R_elder' HO164.out (Kd.R_base ho161) hb)
            have n1_ := Aside0.mk (Kd.R_elder' HO167.out (Kd.R_base ho161) hb)
            have n2_ := Aside0.mk (Kd.R_lower (Kd.R_newB (Kd.R_newB (Kd.R_newB (Kd.R_new' (Kd.R_new' ho161 (Kd.R_lt HO164.out)) (Kd.R_lt HO167.out)) (g := gb153) (o := .cells #[.bool true, .bool false, .bool true] 26 (0, 0)) (by (with_reducible repeat (first | refine blk_drewN ?_ _ | refine blk_drew ?_ | refine blk_alloc ?_ _)); exact BK153.out)) (g := gb154) (o := .cells #[.bool a3_0, .bool a3_1, .bool a3_2] 26 (0, 0)) (by (with_reducible repeat (first | refine blk_drewN ?_ _ | refine blk_drew ?_ | refine blk_alloc ?_ _)); exact BK154.out)) (g := gb171) (o := .cells #[.bool t168, .bool t169, .bool t170] 26 (0, 0)) (by (with_reducible repeat (first | refine blk_drewN ?_ _ | refine blk_drew ?_ | refine blk_alloc ?_ _)); exact BK171.out)) (below_size (by repeat (first | (with_reducible first | exact HB.out | apply below_alloc | apply pw_below_drewN | apply below_drew1 | refine below_set ?_ GE153.out | refine below_set ?_ GE154.out | refine below_set ?_ GE171.out) | exact HB.out))))
            have n3_ := Aside0.mk (blk_below (g := gb153) (o := .cells #[.bool true, .bool false, .bool true] 26 (0, 0)) BK153.out hb)
            have n4_ := Aside0.mk (blk_below (g := gb154) (o := .cells #[.bool a3_0, .bool a3_1, .bool a3_2] 26 (0, 0)) BK154.out hb)
            have n5_ := Aside0.mk (blk_below (g := gb171) (o := .cells #[.bool t168, .bool t169, .bool t170] 26 (0, 0)) BK171.out hb)
            have n6_ := Aside0.mk (below_step (by repeat (first | (with_reducible first | exact HB.out | apply below_alloc | apply pw_below_drewN | apply below_drew1 | refine below_set ?_ GE153.out | refine below_set ?_ GE154.out | refine below_set ?_ GE171.out) | exact HB.out)) hb)
            clear HO164
            clear HO167
            clear BK153
            clear BK154
            clear BK171
            clear HB
            have HO164 := n0_
            have HO167 := n1_
            have HO183 := n2_
            have BK153 := n3_
            have BK154 := n4_
            have BK171 := n5_
            have HB := n6_
            clear n0_ n1_ n2_ n3_ n4_ n5_ n6_
            clear hb ho161
            obtain ⟨Ao162, co162, eo162⟩ := Kd.R_slice HO183.out
            (first | subst eo162 | (injection eo162 with f1_ f2_ f3_; have f4_ := f1_.symm; have f5_ := f3_.symm; clear f1_ f2_ f3_; subst f4_; subst f5_))
            refine hK.out _ _ ⟨(blk_cell BK171.out 0).trans rfl, (blk_cell BK171.out 1).trans rfl, (blk_cell BK171.out 2).trans rfl, (blk_cell BK153.out 0).trans rfl, (blk_cell BK153.out 1).trans rfl, (blk_cell BK153.out 2).trans rfl, (blk_cell BK154.out 0).trans rfl, (blk_cell BK154.out 1).trans rfl, (blk_cell BK154.out 2).trans rfl⟩ (fun hHeld => ?_)
            clear hK K
            refine norm_ (a' := ?_) ?_ ?_
            rotate_left
            ·
             show Act.put _ (some 39) _ = _
             simp only [Act.put, List.setIfInBounds_toArray, List.set_cons_zero, List.set_cons_succ, i64_w, i32_w]
             rfl
            refine one_ (i := 9) (N := some 40) AL10 rfl rfl (one_of HT_.out (by kernel_rfl)) (by decide) (fun K hK => ?_)
            refine goes_ Try.func15 (by kernel_rfl) rfl #[.slice Ao162 y181.length co162] (by rfl) rfl rfl (by (try simp only [List.map_toArray, List.map_cons, List.map_nil]); first | done | rfl | (simp only [List.length_drop, List.length_take]; rfl)) ?_
            with_reducible refine (right_Meet.calls kj5 _ _ y181 t184 t185 t186 _ ?side1 ?side2 A19.out).mono ?_
            (case side1 => repeat (first | exact (Kd.R_reads' HO183.out).2.2 | (with_reducible refine Kd.C_alloc ?_ _) | (with_reducible refine Kd.C_drewN ?_ _) | (with_reducible refine Kd.C_drew ?_)))
            (case side2 => exact (Kd.R_reads' HO183.out).2.1)
            rintro e w163 ⟨rfl, hb⟩
            refine ⟨_, rfl, ?_⟩
            have n0_ := Aside0.mk (Kd.R_below HO164.out hb)
            have n1_ := Aside0.mk (Kd.R_below HO167.out hb)
            have n2_ := Aside0.mk (Kd.R_below HO183.out hb)
            have n3_ := Aside0.mk (blk_below (g := gb153) (o := .cells #[.bool true, .bool false, .bool true] 26 (0, 0)) BK153.out hb)
            have n4_ := Aside0.mk (blk_below (g := gb154) (o := .cells #[.bool a3_0, .bool a3_1, .bool a3_2] 26 (0, 0)) BK154.out hb)
            have n5_ := Aside0.mk (blk_below (g := gb171) (o := .cells #[.bool t168, .bool t169, .bool t170] 26 (0, 0)) BK171.out hb)
            have n6_ := Aside0.mk (below_step (by repeat (first | (with_reducible first | exact HB.out | apply below_alloc | apply pw_below_drewN | apply below_drew1 | refine below_set ?_ GE153.out | refine below_set ?_ GE154.out | refine below_set ?_ GE171.out) | exact HB.out)) hb)
            clear HO164
            clear HO167
            clear HO183
            clear BK153
            clear BK154
            clear BK171
            clear HB
            have HO164 := n0_
            have HO167 := n1_
            have HO183 := n2_
            have BK153 := n3_
            have BK154 := n4_
            have BK171 := n5_
            have HB := n6_
            clear n0_ n1_ n2_ n3_ n4_ n5_ n6_
            (try clear hb)
            (try clear hb2)
            (try clear hk)
            (try clear hi)
            refine hK.out _ _ ⟨(blk_cell BK171.out 0).trans rfl, (blk_cell BK171.out 1).trans rfl, (blk_cell BK171.out 2).trans rfl, (blk_cell BK153.out 0).trans rfl, (blk_cell BK153.out 1).trans rfl, (blk_cell BK153.out 2).trans rfl, (blk_cell BK154.out 0).trans rfl, (blk_cell BK154.out 1).trans rfl, (blk_cell BK154.out 2).trans rfl⟩ (fun hHeld => ?_)
            clear hK K
            refine norm_ (a' := ?_) ?_ ?_
            rotate_left
            ·
             show Act.put _ (some 40) _ = _
             simp only [Act.put, List.setIfInBounds_toArray, List.set_cons_zero, List.set_cons_succ, i64_w, i32_w]
             rfl
            refine pure_ (i := 10) (N := some 41) (v := ?_) (a' := ?_) AL11 rfl rfl (any_of HT_.out (by kernel_rfl)) (fun _ _ _ h => h) (Or.inl ⟨by rfl, ?_⟩) ?_ ?_
            rotate_left
            ·
             intro w'
             go_simp
             with_reducible rfl
            rotate_left
            ·
             simp only [Act.put, List.setIfInBounds_toArray, List.set_cons_zero, List.set_cons_succ, i64_w, i32_w]
             rfl
            refine pure_ (i := 11) (N := some 42) (v := ?_) (a' := ?_) AL12 rfl rfl (any_of HT_.out (by kernel_rfl)) (fun _ _ _ h => h) (Or.inl ⟨by rfl, ?_⟩) ?_ ?_
            rotate_left
            ·
             intro w'
             go_simp
             with_reducible rfl
            rotate_left
            ·
             simp only [Act.put, List.setIfInBounds_toArray, List.set_cons_zero, List.set_cons_succ, i64_w, i32_w]
             rfl
            refine pure_ (i := 12) (N := some 43) (v := ?_) (a' := ?_) AL13 rfl rfl (any_of HT_.out (by kernel_rfl)) (fun _ _ _ h => h) (Or.inl ⟨by rfl, ?_⟩) ?_ ?_
            rotate_left
            ·
             intro w'
             go_simp
             with_reducible rfl
            rotate_left
            ·
             simp only [Act.put, List.setIfInBounds_toArray, List.set_cons_zero, List.set_cons_succ, i64_w, i32_w]
             rfl
            refine pure_ (i := 14) (N := some 45) (v := ?_) (a' := ?_) AL14 rfl rfl (any_of HT_.out (by kernel_rfl)) (fun _ _ _ h => h) (Or.inl ⟨by rfl, ?_⟩) ?_ ?_
            rotate_left
            ·
             intro w'
             go_simp
             with_reducible rfl
            rotate_left
            ·
             simp only [Act.put, List.setIfInBounds_toArray, List.set_cons_zero, List.set_cons_succ, i64_w, i32_w]
             rfl
            refine pure_ (i := 20) (N := some 51) (v := ?_) (a' := ?_) AL15 rfl rfl (any_of HT_.out (by kernel_rfl)) (fun _ _ _ h => h) (Or.inl ⟨by rfl, ?_⟩) ?_ ?_
            rotate_left
            ·
             intro w'
             go_simp
             with_reducible rfl
            rotate_left
            ·
             simp only [Act.put, List.setIfInBounds_toArray, List.set_cons_zero, List.set_cons_succ, i64_w, i32_w]
             rfl
            refine pure_ (i := 26) (N := some 57) (v := ?_) (a' := ?_) AL16 rfl rfl (any_of HT_.out (by kernel_rfl)) (fun _ _ _ h => h) (Or.inl ⟨by rfl, ?_⟩) ?_ ?_
            rotate_left
            ·
             intro w'
             go_simp
             with_reducible rfl
            rotate_left
            ·
             simp only [Act.put, List.setIfInBounds_toArray, List.set_cons_zero, List.set_cons_succ, i64_w, i32_w]
             rfl
            refine take_ (i := 13) (N := some 44) (v := ?_) (a' := ?_) AL17 rfl rfl (take_ofW HT_.out HW_.out (by kernel_rfl)) (fun _ _ _ h => h) (Or.inl ⟨by rfl, ?_⟩) hHeld ?_ ?_
            rotate_left
            ·
             rintro w' ⟨s0, s1, s2, s3, s4, s5, s6, s7, s8⟩
             go_simp
             with_reducible rfl
            rotate_left
            ·
             simp only [Act.put, List.setIfInBounds_toArray, List.set_cons_zero, List.set_cons_succ, i64_w, i32_w]
             rfl
            refine take_ (i := 15) (N := some 46) (v := ?_) (a' := ?_) AL18 rfl rfl (take_ofW HT_.out HW_.out (by kernel_rfl)) (fun _ _ _ h => h) (Or.inl ⟨by rfl, ?_⟩) hHeld ?_ ?_
            rotate_left
            ·
             rintro w' ⟨s0, s1, s2, s3, s4, s5, s6, s7, s8⟩
             go_simp
             with_reducible rfl
            rotate_left
            ·
             simp only [Act.put, List.setIfInBounds_toArray, List.set_cons_zero, List.set_cons_succ, i64_w, i32_w]
             rfl
            refine pure_ (i := 16) (N := some 47) (v := ?_) (a' := ?_) AL19 rfl rfl (any_of HT_.out (by kernel_rfl)) (fun _ _ _ h => h) (Or.inl ⟨by rfl, ?_⟩) ?_ ?_
            rotate_left
            ·
             intro w'
             go_simp
             with_reducible rfl
            rotate_left
            ·
             simp only [Act.put, List.setIfInBounds_toArray, List.set_cons_zero, List.set_cons_succ, i64_w, i32_w]
             rfl
            refine pure_ (i := 17) (N := some 48) (v := ?_) (a' := ?_) AL20 rfl rfl (any_of HT_.out (by kernel_rfl)) (fun _ _ _ h => h) (Or.inl ⟨by rfl, ?_⟩) ?_ ?_
            rotate_left
            ·
             intro w'
             go_simp
             with_reducible rfl
            rotate_left
            ·
             simp only [Act.put, List.setIfInBounds_toArray, List.set_cons_zero, List.set_cons_succ, i64_w, i32_w]
             rfl
            refine take_ (i := 18) (N := some 49) (v := ?_) (a' := ?_) AL21 rfl rfl (take_ofW HT_.out HW_.out (by kernel_rfl)) (fun _ _ _ h => h) (Or.inl ⟨by rfl, ?_⟩) hHeld ?_ ?_
            rotate_left
            ·
             rintro w' ⟨s0, s1, s2, s3, s4, s5, s6, s7, s8⟩
             go_simp
             with_reducible rfl
            rotate_left
            ·
             simp only [Act.put, List.setIfInBounds_toArray, List.set_cons_zero, List.set_cons_succ, i64_w, i32_w]
             rfl
            refine pure_ (i := 19) (N := some 50) (v := ?_) (a' := ?_) AL22 rfl rfl (any_of HT_.out (by kernel_rfl)) (fun _ _ _ h => h) (Or.inl ⟨by rfl, ?_⟩) ?_ ?_
            rotate_left
            ·
             intro w'
             go_simp
             with_reducible rfl
            rotate_left
            ·
             simp only [Act.put, List.setIfInBounds_toArray, List.set_cons_zero, List.set_cons_succ, i64_w, i32_w]
             rfl
            refine take_ (i := 21) (N := some 52) (v := ?_) (a' := ?_) AL23 rfl rfl (take_ofW HT_.out HW_.out (by kernel_rfl)) (fun _ _ _ h => h) (Or.inl ⟨by rfl, ?_⟩) hHeld ?_ ?_
            rotate_left
            ·
             rintro w' ⟨s0, s1, s2, s3, s4, s5, s6, s7, s8⟩
             go_simp
             with_reducible rfl
            rotate_left
            ·
             simp only [Act.put, List.setIfInBounds_toArray, List.set_cons_zero, List.set_cons_succ, i64_w, i32_w]
             rfl
            refine pure_ (i := 22) (N := some 53) (v := ?_) (a' := ?_) AL24 rfl rfl (any_of HT_.out (by kernel_rfl)) (fun _ _ _ h => h) (Or.inl ⟨by rfl, ?_⟩) ?_ ?_
            rotate_left
            ·
             intro w'
             go_simp
             with_reducible rfl
            rotate_left
            ·
             simp only [Act.put, List.setIfInBounds_toArray, List.set_cons_zero, List.set_cons_succ, i64_w, i32_w]
             rfl
            refine pure_ (i := 23) (N := some 54) (v := undef) (a' := ?_) AL25 rfl rfl (any_of HT_.out (by kernel_rfl)) (fun _ _ _ h => h) (Or.inr ⟨by rfl, rfl⟩) ?_ ?_
            rotate_left
            ·
             simp only [Act.put, List.setIfInBounds_toArray, List.set_cons_zero, List.set_cons_succ, i64_w, i32_w]
             rfl
            refine pure_ (i := 24) (N := some 55) (v := undef) (a' := ?_) AL26 rfl rfl (any_of HT_.out (by kernel_rfl)) (fun _ _ _ h => h) (Or.inr ⟨by rfl, rfl⟩) ?_ ?_
            rotate_left
            ·
             simp only [Act.put, List.setIfInBounds_toArray, List.set_cons_zero, List.set_cons_succ, i64_w, i32_w]
             rfl
            refine pure_ (i := 25) (N := some 56) (v := ?_) (a' := ?_) AL27 rfl rfl (any_of HT_.out (by kernel_rfl)) (fun _ _ _ h => h) (Or.inl ⟨by rfl, ?_⟩) ?_ ?_
            rotate_left
            ·
             intro w'
             go_simp
             with_reducible rfl
            rotate_left
            ·
             simp only [Act.put, List.setIfInBounds_toArray, List.set_cons_zero, List.set_cons_succ, i64_w, i32_w]
             rfl
            refine take_ (i := 27) (N := some 58) (v := ?_) (a' := ?_) AL28 rfl rfl (take_ofW HT_.out HW_.out (by kernel_rfl)) (fun _ _ _ h => h) (Or.inl ⟨by rfl, ?_⟩) hHeld ?_ ?_
            rotate_left
            ·
             rintro w' ⟨s0, s1, s2, s3, s4, s5, s6, s7, s8⟩
             go_simp
             with_reducible rfl
            rotate_left
            ·
             simp only [Act.put, List.setIfInBounds_toArray, List.set_cons_zero, List.set_cons_succ, i64_w, i32_w]
             rfl
            refine pure_ (i := 28) (N := some 59) (v := ?_) (a' := ?_) AL29 rfl rfl (any_of HT_.out (by kernel_rfl)) (fun _ _ _ h => h) (Or.inl ⟨by rfl, ?_⟩) ?_ ?_
            rotate_left
            ·
             intro w'
             go_simp
             with_reducible rfl
            rotate_left
            ·
             simp only [Act.put, List.setIfInBounds_toArray, List.set_cons_zero, List.set_cons_succ, i64_w, i32_w]
             rfl
            refine pure_ (i := 29) (N := some 60) (v := ?_) (a' := ?_) AL30 rfl rfl (any_of HT_.out (by kernel_rfl)) (fun _ _ _ h => h) (Or.inl ⟨by rfl, ?_⟩) ?_ ?_
            rotate_left
            ·
             intro w'
             go_simp
             with_reducible rfl
            rotate_left
            ·
             simp only [Act.put, List.setIfInBounds_toArray, List.set_cons_zero, List.set_cons_succ, i64_w, i32_w]
             rfl
            refine take_ (i := 30) (N := some 61) (v := ?_) (a' := ?_) AL31 rfl rfl (take_ofW HT_.out HW_.out (by kernel_rfl)) (fun _ _ _ h => h) (Or.inl ⟨by rfl, ?_⟩) hHeld ?_ ?_
            rotate_left
            ·
             rintro w' ⟨s0, s1, s2, s3, s4, s5, s6, s7, s8⟩
             go_simp
             with_reducible rfl
            rotate_left
            ·
             simp only [Act.put, List.setIfInBounds_toArray, List.set_cons_zero, List.set_cons_succ, i64_w, i32_w]
             rfl
            refine pure_ (i := 31) (N := some 62) (v := ?_) (a' := ?_) AL32 rfl rfl (any_of HT_.out (by kernel_rfl)) (fun _ _ _ h => h) (Or.inl ⟨by rfl, ?_⟩) ?_ ?_
            rotate_left
            ·
             intro w'
             go_simp
             with_reducible rfl
            rotate_left
            ·
             simp only [Act.put, List.setIfInBounds_toArray, List.set_cons_zero, List.set_cons_succ, i64_w, i32_w]
             rfl
            refine pure_ (i := 32) (N := some 63) (v := ?_) (a' := ?_) AL33 rfl rfl (any_of HT_.out (by kernel_rfl)) (fun _ _ _ h => h) (Or.inl ⟨by rfl, ?_⟩) ?_ ?_
            rotate_left
            ·
             intro w'
             go_simp
             with_reducible rfl
            rotate_left
            ·
             simp only [Act.put, List.setIfInBounds_toArray, List.set_cons_zero, List.set_cons_succ, i64_w, i32_w]
             rfl
            refine pure_ (i := 33) (N := some 64) (v := ?_) (a' := ?_) AL34 rfl rfl (any_of HT_.out (by kernel_rfl)) (fun _ _ _ h => h) (Or.inl ⟨by rfl, ?_⟩) ?_ ?_
            rotate_left
            ·
             intro w'
             go_simp
             with_reducible rfl
            rotate_left
            ·
             simp only [Act.put, List.setIfInBounds_toArray, List.set_cons_zero, List.set_cons_succ, i64_w, i32_w]
             rfl
            refine pure_ (i := 34) (N := some 65) (v := ?_) (a' := ?_) AL35 rfl rfl (any_of HT_.out (by kernel_rfl)) (fun _ _ _ h => h) (Or.inl ⟨by rfl, ?_⟩) ?_ ?_
            rotate_left
            ·
             intro w'
             go_simp
             with_reducible rfl
            rotate_left
            ·
             simp only [Act.put, List.setIfInBounds_toArray, List.set_cons_zero, List.set_cons_succ, i64_w, i32_w]
             rfl
            refine pure_ (i := 35) (N := some 66) (v := ?_) (a' := ?_) AL36 rfl rfl (any_of HT_.out (by kernel_rfl)) (fun _ _ _ h => h) (Or.inl ⟨by rfl, ?_⟩) ?_ ?_
            rotate_left
            ·
             intro w'
             go_simp
             with_reducible rfl
            rotate_left
            ·
             simp only [Act.put, List.setIfInBounds_toArray, List.set_cons_zero, List.set_cons_succ, i64_w, i32_w]
             rfl
            refine take_ (i := 36) (N := some 67) (v := ?_) (a' := ?_) AL37 rfl rfl (take_ofW HT_.out HW_.out (by kernel_rfl)) (fun _ _ _ h => h) (Or.inl ⟨by rfl, ?_⟩) hHeld ?_ ?_
            rotate_left
            ·
             rintro w' ⟨s0, s1, s2, s3, s4, s5, s6, s7, s8⟩
             go_simp
             with_reducible rfl
            rotate_left
            ·
             simp only [Act.put, List.setIfInBounds_toArray, List.set_cons_zero, List.set_cons_succ, i64_w, i32_w]
             rfl
            refine take_ (i := 39) (N := some 70) (v := ?_) (a' := ?_) AL38 rfl rfl (take_ofW HT_.out HW_.out (by kernel_rfl)) (fun _ _ _ h => h) (Or.inl ⟨by rfl, ?_⟩) hHeld ?_ ?_
            rotate_left
            ·
             rintro w' ⟨s0, s1, s2, s3, s4, s5, s6, s7, s8⟩
             go_simp
             with_reducible rfl
            rotate_left
            ·
             simp only [Act.put, List.setIfInBounds_toArray, List.set_cons_zero, List.set_cons_succ, i64_w, i32_w]
             rfl
            refine one_ (i := 37) (N := some 68) AL39 rfl rfl (one_of HT_.out (by kernel_rfl)) (by decide) (fun K hK => ?_)
            refine Kd.R_lit_step k26 _ 26 ?hg (N := 68) ?hd (xs := ([(⟨true, false, true⟩ : S26)] : List (S26))) (inner := [.bool true, .bool false, .bool true]) (ok := fun _ => True) (okp := fun _ => True) ?hr ?hp (fun _ hk => hk) trivial (Below.refl _ _) (Nat.le_refl _) (by simp) ?_; (case hd => rfl); (case hg => rfl); (case hr => first | (go_simp; done) | (go_simp; rfl)); (case hp => exact (Reps.c3 (show Kd.M k26 _ _ _ (⟨true, false, true⟩ : S26) [.bool true, .bool false, .bool true] from (k26_mkM _ _ _ (⟨true, false, true⟩ : S26) )) (Reps.none _ _)))
            intro v200 w164 ho165 hb hg_ hnew_
            clear hg_ hnew_
            (first | rw [← Ny199.out] at ho165 | (simp only [Int.reduceToNat] at ho165; rw [← Ny199.out] at ho165))
            have n0_ := Aside0.mk (Kd.R_elder' HO164.out (Kd.R_base ho165) hb)
            have n1_ := Aside0.mk (Kd.R_elder' HO167.out (Kd.R_base ho165) hb)
            have n2_ := Aside0.mk (Kd.R_elder' HO183.out (Kd.R_base ho165) hb)
            have n3_ := Aside0.mk (Kd.R_lower (Kd.R_newB (Kd.R_newB (Kd.R_newB (Kd.R_new' (Kd.R_new' (Kd.R_new' ho165 (Kd.R_lt HO164.out)) (Kd.R_lt HO167.out)) (Kd.R_lt HO183.out)) (g := gb153) (o := .cells #[.bool true, .bool false, .bool true] 26 (0, 0)) (by (with_reducible repeat (first | refine blk_drewN ?_ _ | refine blk_drew ?_ | refine blk_alloc ?_ _)); exact BK153.out)) (g := gb154) (o := .cells #[.bool a3_0, .bool a3_1, .bool a3_2] 26 (0, 0)) (by (with_reducible repeat (first | refine blk_drewN ?_ _ | refine blk_drew ?_ | refine blk_alloc ?_ _)); exact BK154.out)) (g := gb171) (o := .cells #[.bool t168, .bool t169, .bool t170] 26 (0, 0)) (by (with_reducible repeat (first | refine blk_drewN ?_ _ | refine blk_drew ?_ | refine blk_alloc ?_ _)); exact BK171.out)) (below_size (by repeat (first | (with_reducible first | exact HB.out | apply below_alloc | apply pw_below_drewN | apply below_drew1 | refine below_set ?_ GE153.out | refine below_set ?_ GE154.out | refine below_set ?_ GE171.out) | exact HB.out))))
            have n4_ := Aside0.mk (blk_below (g := gb153) (o := .cells #[.bool true, .bool false, .bool true] 26 (0, 0)) BK153.out hb)
            have n5_ := Aside0.mk (blk_below (g := gb154) (o := .cells #[.bool a3_0, .bool a3_1, .bool a3_2] 26 (0, 0)) BK154.out hb)
            have n6_ := Aside0.mk (blk_below (g := gb171) (o := .cells #[.bool t168, .bool t169, .bool t170] 26 (0, 0)) BK171.out hb)
            have n7_ := Aside0.mk (below_step (by repeat (first | (with_reducible first | exact HB.out | apply below_alloc | apply pw_below_drewN | apply below_drew1 | refine below_set ?_ GE153.out | refine below_set ?_ GE154.out | refine below_set ?_ GE171.out) | exact HB.out)) hb)
            clear HO164
            clear HO167
            clear HO183
            clear BK153
            clear BK154
            clear BK171
            clear HB
            have HO164 := n0_
            have HO167 := n1_
            have HO183 := n2_
            have HO201 := n3_
            have BK153 := n4_
            have BK154 := n5_
            have BK171 := n6_
            have HB := n7_
            clear n0_ n1_ n2_ n3_ n4_ n5_ n6_ n7_
            clear hb ho165
            obtain ⟨Ao166, co166, eo166⟩ := Kd.R_slice HO201.out
            (first | subst eo166 | (injection eo166 with f1_ f2_ f3_; have f4_ := f1_.symm; have f5_ := f3_.symm; clear f1_ f2_ f3_; subst f4_; subst f5_))
            refine hK.out _ _ ⟨(blk_cell BK171.out 0).trans rfl, (blk_cell BK171.out 1).trans rfl, (blk_cell BK171.out 2).trans rfl, (blk_cell BK153.out 0).trans rfl, (blk_cell BK153.out 1).trans rfl, (blk_cell BK153.out 2).trans rfl, (blk_cell BK154.out 0).trans rfl, (blk_cell BK154.out 1).trans rfl, (blk_cell BK154.out 2).trans rfl⟩ (fun hHeld => ?_)
            clear hK K
            refine norm_ (a' := ?_) ?_ ?_
            rotate_left
            ·
             show Act.put _ (some 68) _ = _
             simp only [Act.put, List.setIfInBounds_toArray, List.set_cons_zero, List.set_cons_succ, i64_w, i32_w]
             rfl
            refine one_ (i := 38) (N := some 69) AL40 rfl rfl (one_of HT_.out (by kernel_rfl)) (by decide) (fun K hK => ?_)
            refine goes_ Try.func15 (by kernel_rfl) rfl #[.slice Ao166 y199.length co166] (by rfl) rfl rfl (by (try simp only [List.map_toArray, List.map_cons, List.map_nil]); first | done | rfl | (simp only [List.length_drop, List.length_take]; rfl)) ?_
            with_reducible refine (right_Meet.calls kj5 _ _ y199 t202 t203 t204 _ ?side1 ?side2 A138.out).mono ?_
            (case side1 => repeat (first | exact (Kd.R_reads' HO201.out).2.2 | (with_reducible refine Kd.C_alloc ?_ _) | (with_reducible refine Kd.C_drewN ?_ _) | (with_reducible refine Kd.C_drew ?_)))
            (case side2 => exact (Kd.R_reads' HO201.out).2.1)
            rintro e w167 ⟨rfl, hb⟩
            refine ⟨_, rfl, ?_⟩
            have n0_ := Aside0.mk (Kd.R_below HO164.out hb)
            have n1_ := Aside0.mk (Kd.R_below HO167.out hb)
            have n2_ := Aside0.mk (Kd.R_below HO183.out hb)
            have n3_ := Aside0.mk (Kd.R_below HO201.out hb)
            have n4_ := Aside0.mk (blk_below (g := gb153) (o := .cells #[.bool true, .bool false, .bool true] 26 (0, 0)) BK153.out hb)
            have n5_ := Aside0.mk (blk_below (g := gb154) (o := .cells #[.bool a3_0, .bool a3_1, .bool a3_2] 26 (0, 0)) BK154.out hb)
            have n6_ := Aside0.mk (blk_below (g := gb171) (o := .cells #[.bool t168, .bool t169, .bool t170] 26 (0, 0)) BK171.out hb)
            have n7_ := Aside0.mk (below_step (by repeat (first | (with_reducible first | exact HB.out | apply below_alloc | apply pw_below_drewN | apply below_drew1 | refine below_set ?_ GE153.out | refine below_set ?_ GE154.out | refine below_set ?_ GE171.out) | exact HB.out)) hb)
            clear HO164
            clear HO167
            clear HO183
            clear HO201
            clear BK153
            clear BK154
            clear BK171
            clear HB
            have HO164 := n0_
            have HO167 := n1_
            have HO183 := n2_
            have HO201 := n3_
            have BK153 := n4_
            have BK154 := n5_
            have BK171 := n6_
            have HB := n7_
            clear n0_ n1_ n2_ n3_ n4_ n5_ n6_ n7_
            (try clear hb)
            (try clear hb2)
            (try clear hk)
            (try clear hi)
            refine hK.out _ _ ⟨(blk_cell BK171.out 0).trans rfl, (blk_cell BK171.out 1).trans rfl, (blk_cell BK171.out 2).trans rfl, (blk_cell BK153.out 0).trans rfl, (blk_cell BK153.out 1).trans rfl, (blk_cell BK153.out 2).trans rfl, (blk_cell BK154.out 0).trans rfl, (blk_cell BK154.out 1).trans rfl, (blk_cell BK154.out 2).trans rfl⟩ (fun hHeld => ?_)
            clear hK K
            refine norm_ (a' := ?_) ?_ ?_
            rotate_left
            ·
             show Act.put _ (some 69) _ = _
             simp only [Act.put, List.setIfInBounds_toArray, List.set_cons_zero, List.set_cons_succ, i64_w, i32_w]
             rfl
            refine pure_ (i := 40) (N := some 71) (v := ?_) (a' := ?_) AL41 rfl rfl (any_of HT_.out (by kernel_rfl)) (fun _ _ _ h => h) (Or.inl ⟨by rfl, ?_⟩) ?_ ?_
            rotate_left
            ·
             intro w'
             go_simp
             with_reducible rfl
            rotate_left
            ·
             simp only [Act.put, List.setIfInBounds_toArray, List.set_cons_zero, List.set_cons_succ, i64_w, i32_w]
             rfl
            refine pure_ (i := 41) (N := some 72) (v := ?_) (a' := ?_) AL42 rfl rfl (any_of HT_.out (by kernel_rfl)) (fun _ _ _ h => h) (Or.inl ⟨by rfl, ?_⟩) ?_ ?_
            rotate_left
            ·
             intro w'
             go_simp
             with_reducible rfl
            rotate_left
            ·
             simp only [Act.put, List.setIfInBounds_toArray, List.set_cons_zero, List.set_cons_succ, i64_w, i32_w]
             rfl
            refine pure_ (i := 42) (N := some 8) (v := ?_) (a' := ?_) AL43 rfl rfl (any_of HT_.out (by kernel_rfl)) (fun _ _ _ h => h) (Or.inl ⟨by rfl, ?_⟩) ?_ ?_
            rotate_left
            ·
             intro w'
             go_simp
             with_reducible rfl
            rotate_left
            ·
             simp only [Act.put, List.setIfInBounds_toArray, List.set_cons_zero, List.set_cons_succ, i64_w, i32_w]
             rfl
            refine done_ (done_of HT_.out (by kernel_rfl)) ?_
            try go_wp2
            go_ret
            exact ⟨by first | rfl | (simp [errW_none, errW_some] <;> rfl) | (simp [*, errW_none, errW_some] <;> rfl), by repeat (first | (with_reducible first | exact HB.out | apply below_alloc | apply pw_below_drewN | apply below_drew1 | refine below_set ?_ GE153.out | refine below_set ?_ GE154.out | refine below_set ?_ GE171.out) | exact HB.out)⟩
           ·
            rw [if_neg c137] at H
            have c137b0 : (t168 == a3_0 && (!t169 && (t170 == a3_2))) = false := by simpa using c137
            (try (have c137b1 : decide (t168 = a3_0 && (!t169 && (t170 == a3_2))) = false := by simpa using c137))
            (try (have c137b2 : (t168 == a3_0 && (!t169 && (t170 == a3_2))) = false := by simpa using c137))
            (try (have c137b3 : ¬ (t168 = a3_0 && (!t169 && (t170 == a3_2))) := by simpa using c137))
            clear c137
            obtain rfl := Option.some.inj H
            exact absurd hr (by decide)
          ·
           replace c136 := Bool.eq_false_iff.mpr c136
           subst c136
           have H1 : (if (t168 == a3_0 && (!t169 && (!t170))) = true then ((right_Meet.f kj5 (([(⟨true, false, false⟩ : S26)] : List (S26)))).bind fun bt208 => (some (bt208.1 == true && (bt208.2.1 == false && (bt208.2.2 == false))))) else (some false)) = some r := by rw [if_neg (show ¬ (false = true) by decide)] at H; exact H
           clear H
           have H := H1
           clear H1
           by_cases c193 : (t168 == a3_0 && (!t169 && (!t170))) = true
           ·
            rw [if_pos c193] at H
            have c193b0 : (t168 == a3_0 && (!t169 && (!t170))) = true := c193
            (try (have c193b1 : decide (t168 = a3_0 && (!t169 && (!t170))) = true := by simpa using c193))
            (try (have c193b2 : (t168 == a3_0 && (!t169 && (!t170))) = true := by simpa using c193))
            clear c193
            obtain ⟨y205, hy205⟩ : ∃ y_ : List (S26), y_ = (([(⟨true, false, false⟩ : S26)] : List (S26))) := ⟨_, rfl⟩
            replace H : ((right_Meet.f kj5 y205).bind fun bt208 => (some (bt208.1 == true && (bt208.2.1 == false && (bt208.2.2 == false))))) = some r := by first | (rw [hy205]; with_reducible exact H) | (have H2_ := (Option.bind_some _ _).symm.trans H; rw [hy205]; with_reducible exact H2_) | (have H2_ := (Option.bind_some _ _).symm.trans H; with_reducible exact H2_) | with_reducible exact H | (rw [hy205]; exact H) | exact H
            have Ny205 := Aside0.mk hy205
            clear hy205
            replace H := Option.bind_eq_some_iff.mp H
            obtain ⟨⟨t208, t209, t210⟩, A1940, H⟩ := H
            replace H : (some (t208 == true && (t209 == false && (t210 == false)))) = some r := H
            have A194 := Aside0.mk A1940
            clear A1940
            exact absurd hs (by decide)
           ·
            rw [if_neg c193] at H
            have c193b0 : (t168 == a3_0 && (!t169 && (!t170))) = false := by simpa using c193
            (try (have c193b1 : decide (t168 = a3_0 && (!t169 && (!t170))) = false := by simpa using c193))
            (try (have c193b2 : (t168 == a3_0 && (!t169 && (!t170))) = false := by simpa using c193))
            (try (have c193b3 : ¬ (t168 = a3_0 && (!t169 && (!t170))) := by simpa using c193))
            clear c193
            obtain rfl := Option.some.inj H
            exact absurd hr (by decide)
        ·
         replace c21 := Bool.eq_false_iff.mpr c21
         subst c21
         have H1 : (if a2_1 = true then (if a2_2 = true then (if (!t168 && (t169 == a3_1 && (t170 == a3_2))) = true then ((right_Meet.f kj5 (([(⟨false, a2_1, a2_2⟩ : S26)] : List (S26)))).bind fun bt214 => (some (bt214.1 == false && (bt214.2.1 == a2_1 && (bt214.2.2 == a2_2))))) else (some false)) else (if (!t168 && (t169 == a3_1 && (!t170))) = true then ((right_Meet.f kj5 (([(⟨false, a2_1, a2_2⟩ : S26)] : List (S26)))).bind fun bt220 => (some (bt220.1 == false && (bt220.2.1 == a2_1 && (bt220.2.2 == a2_2))))) else (some false))) else (if a2_2 = true then (if (!t168 && (!t169 && (t170 == a3_2))) = true then ((right_Meet.f kj5 (([(⟨false, a2_1, a2_2⟩ : S26)] : List (S26)))).bind fun bt226 => (some (bt226.1 == false && (bt226.2.1 == a2_1 && (bt226.2.2 == a2_2))))) else (some false)) else (if (!t168 && (!t169 && (!t170))) = true then ((right_Meet.f kj5 (([(⟨false, a2_1, a2_2⟩ : S26)] : List (S26)))).bind fun bt232 => (some (bt232.1 == false && (bt232.2.1 == a2_1 && (bt232.2.2 == a2_2))))) else (some false)))) = some r := by rw [if_neg (show ¬ (false = true) by decide)] at H; exact H
         clear H
         have H := H1
         clear H1
         by_cases c249 : a2_1 = true
         ·
          subst c249
          have H1 : (if a2_2 = true then (if (!t168 && (t169 == a3_1 && (t170 == a3_2))) = true then ((right_Meet.f kj5 (([(⟨false, true, a2_2⟩ : S26)] : List (S26)))).bind fun bt214 => (some (bt214.1 == false && (bt214.2.1 == true && (bt214.2.2 == a2_2))))) else (some false)) else (if (!t168 && (t169 == a3_1 && (!t170))) = true then ((right_Meet.f kj5 (([(⟨false, true, a2_2⟩ : S26)] : List (S26)))).bind fun bt220 => (some (bt220.1 == false && (bt220.2.1 == true && (bt220.2.2 == a2_2))))) else (some false))) = some r := by rw [if_pos rfl] at H; exact H
          clear H
          have H := H1
          clear H1
          by_cases c250 : a2_2 = true
          ·
           subst c250
           have H1 : (if (!t168 && (t169 == a3_1 && (t170 == a3_2))) = true then ((right_Meet.f kj5 (([(⟨false, true, true⟩ : S26)] : List (S26)))).bind fun bt214 => (some (bt214.1 == false && (bt214.2.1 == true && (bt214.2.2 == true))))) else (some false)) = some r := by rw [if_pos rfl] at H; exact H
           clear H
           have H := H1
           clear H1
           by_cases c251 : (!t168 && (t169 == a3_1 && (t170 == a3_2))) = true
           ·
            rw [if_pos c251] at H
            have c251b0 : (!t168 && (t169 == a3_1 && (t170 == a3_2))) = true := c251
            clear c251
            obtain ⟨y211, hy211⟩ : ∃ y_ : List (S26), y_ = (([(⟨false, true, true⟩ : S26)] : List (S26))) := ⟨_, rfl⟩
            replace H : ((right_Meet.f kj5 y211).bind fun bt214 => (some (bt214.1 == false && (bt214.2.1 == true && (bt214.2.2 == true))))) = some r := by first | (rw [hy211]; with_reducible exact H) | (have H2_ := (Option.bind_some _ _).symm.trans H; rw [hy211]; with_reducible exact H2_) | (have H2_ := (Option.bind_some _ _).symm.trans H; with_reducible exact H2_) | with_reducible exact H | (rw [hy211]; exact H) | exact H
            have Ny211 := Aside0.mk hy211
            clear hy211
            replace H := Option.bind_eq_some_iff.mp H
            obtain ⟨⟨t214, t215, t216⟩, A2520, H⟩ := H
            replace H : (some (t214 == false && (t215 == true && (t216 == true)))) = some r := H
            have A252 := Aside0.mk A2520
            clear A2520
            exact absurd hs (by decide)
           ·
            rw [if_neg c251] at H
            have c251b0 : (!t168 && (t169 == a3_1 && (t170 == a3_2))) = false := by simpa using c251
            clear c251
            obtain rfl := Option.some.inj H
            exact absurd hr (by decide)
          ·
           replace c250 := Bool.eq_false_iff.mpr c250
           subst c250
           have H1 : (if (!t168 && (t169 == a3_1 && (!t170))) = true then ((right_Meet.f kj5 (([(⟨false, true, false⟩ : S26)] : List (S26)))).bind fun bt220 => (some (bt220.1 == false && (bt220.2.1 == true && (bt220.2.2 == false))))) else (some false)) = some r := by rw [if_neg (show ¬ (false = true) by decide)] at H; exact H
           clear H
           have H := H1
           clear H1
           by_cases c307 : (!t168 && (t169 == a3_1 && (!t170))) = true
           ·
            rw [if_pos c307] at H
            have c307b0 : (!t168 && (t169 == a3_1 && (!t170))) = true := c307
            clear c307
            obtain ⟨y217, hy217⟩ : ∃ y_ : List (S26), y_ = (([(⟨false, true, false⟩ : S26)] : List (S26))) := ⟨_, rfl⟩
            replace H : ((right_Meet.f kj5 y217).bind fun bt220 => (some (bt220.1 == false && (bt220.2.1 == true && (bt220.2.2 == false))))) = some r := by first | (rw [hy217]; with_reducible exact H) | (have H2_ := (Option.bind_some _ _).symm.trans H; rw [hy217]; with_reducible exact H2_) | (have H2_ := (Option.bind_some _ _).symm.trans H; with_reducible exact H2_) | with_reducible exact H | (rw [hy217]; exact H) | exact H
            have Ny217 := Aside0.mk hy217
            clear hy217
            replace H := Option.bind_eq_some_iff.mp H
            obtain ⟨⟨t220, t221, t222⟩, A3080, H⟩ := H
            replace H : (some (t220 == false && (t221 == true && (t222 == false)))) = some r := H
            have A308 := Aside0.mk A3080
            clear A3080
            exact absurd hs (by decide)
           ·
            rw [if_neg c307] at H
            have c307b0 : (!t168 && (t169 == a3_1 && (!t170))) = false := by simpa using c307
            clear c307
            obtain rfl := Option.some.inj H
            exact absurd hr (by decide)
         ·
          replace c249 := Bool.eq_false_iff.mpr c249
          subst c249
          have H1 : (if a2_2 = true then (if (!t168 && (!t169 && (t170 == a3_2))) = true then ((right_Meet.f kj5 (([(⟨false, false, a2_2⟩ : S26)] : List (S26)))).bind fun bt226 => (some (bt226.1 == false && (bt226.2.1 == false && (bt226.2.2 == a2_2))))) else (some false)) else (if (!t168 && (!t169 && (!t170))) = true then ((right_Meet.f kj5 (([(⟨false, false, a2_2⟩ : S26)] : List (S26)))).bind fun bt232 => (some (bt232.1 == false && (bt232.2.1 == false && (bt232.2.2 == a2_2))))) else (some false))) = some r := by rw [if_neg (show ¬ (false = true) by decide)] at H; exact H
          clear H
          have H := H1
          clear H1
          by_cases c363 : a2_2 = true
          ·
           subst c363
           have H1 : (if (!t168 && (!t169 && (t170 == a3_2))) = true then ((right_Meet.f kj5 (([(⟨false, false, true⟩ : S26)] : List (S26)))).bind fun bt226 => (some (bt226.1 == false && (bt226.2.1 == false && (bt226.2.2 == true))))) else (some false)) = some r := by rw [if_pos rfl] at H; exact H
           clear H
           have H := H1
           clear H1
           by_cases c364 : (!t168 && (!t169 && (t170 == a3_2))) = true
           ·
            rw [if_pos c364] at H
            have c364b0 : (!t168 && (!t169 && (t170 == a3_2))) = true := c364
            clear c364
            obtain ⟨y223, hy223⟩ : ∃ y_ : List (S26), y_ = (([(⟨false, false, true⟩ : S26)] : List (S26))) := ⟨_, rfl⟩
            replace H : ((right_Meet.f kj5 y223).bind fun bt226 => (some (bt226.1 == false && (bt226.2.1 == false && (bt226.2.2 == true))))) = some r := by first | (rw [hy223]; with_reducible exact H) | (have H2_ := (Option.bind_some _ _).symm.trans H; rw [hy223]; with_reducible exact H2_) | (have H2_ := (Option.bind_some _ _).symm.trans H; with_reducible exact H2_) | with_reducible exact H | (rw [hy223]; exact H) | exact H
            have Ny223 := Aside0.mk hy223
            clear hy223
            replace H := Option.bind_eq_some_iff.mp H
            obtain ⟨⟨t226, t227, t228⟩, A3650, H⟩ := H
            replace H : (some (t226 == false && (t227 == false && (t228 == true)))) = some r := H
            have A365 := Aside0.mk A3650
            clear A3650
            exact absurd hs (by decide)
           ·
            rw [if_neg c364] at H
            have c364b0 : (!t168 && (!t169 && (t170 == a3_2))) = false := by simpa using c364
            clear c364
            obtain rfl := Option.some.inj H
            exact absurd hr (by decide)
          ·
           replace c363 := Bool.eq_false_iff.mpr c363
           subst c363
           have H1 : (if (!t168 && (!t169 && (!t170))) = true then ((right_Meet.f kj5 (([(⟨false, false, false⟩ : S26)] : List (S26)))).bind fun bt232 => (some (bt232.1 == false && (bt232.2.1 == false && (bt232.2.2 == false))))) else (some false)) = some r := by rw [if_neg (show ¬ (false = true) by decide)] at H; exact H
           clear H
           have H := H1
           clear H1
           by_cases c420 : (!t168 && (!t169 && (!t170))) = true
           ·
            rw [if_pos c420] at H
            have c420b0 : (!t168 && (!t169 && (!t170))) = true := c420
            clear c420
            obtain ⟨y229, hy229⟩ : ∃ y_ : List (S26), y_ = (([(⟨false, false, false⟩ : S26)] : List (S26))) := ⟨_, rfl⟩
            replace H : ((right_Meet.f kj5 y229).bind fun bt232 => (some (bt232.1 == false && (bt232.2.1 == false && (bt232.2.2 == false))))) = some r := by first | (rw [hy229]; with_reducible exact H) | (have H2_ := (Option.bind_some _ _).symm.trans H; rw [hy229]; with_reducible exact H2_) | (have H2_ := (Option.bind_some _ _).symm.trans H; with_reducible exact H2_) | with_reducible exact H | (rw [hy229]; exact H) | exact H
            have Ny229 := Aside0.mk hy229
            clear hy229
            replace H := Option.bind_eq_some_iff.mp H
            obtain ⟨⟨t232, t233, t234⟩, A4210, H⟩ := H
            replace H : (some (t232 == false && (t233 == false && (t234 == false)))) = some r := H
            have A421 := Aside0.mk A4210
            clear A4210
            exact absurd hs (by decide)
           ·
            rw [if_neg c420] at H
            have c420b0 : (!t168 && (!t169 && (!t170))) = false := by simpa using c420
            clear c420
            obtain rfl := Option.some.inj H
            exact absurd hr (by decide)
       ·
        rw [if_neg c20] at H
        have c20b0 : (t172 == t184 && (t173 == t185 && (t174 == t186))) = false := by simpa using c20
        (try (have c20b1 : decide (t172 = t184 && (t173 == t185 && (t174 == t186))) = false := by simpa using c20))
        (try (have c20b2 : (t172 == t184 && (t173 == t185 && (t174 == t186))) = false := by simpa using c20))
        (try (have c20b3 : ¬ (t172 = t184 && (t173 == t185 && (t174 == t186))) := by simpa using c20))
        clear c20
        obtain rfl := Option.some.inj H
        exact absurd hr (by decide)
      ·
       replace c15 := Bool.eq_false_iff.mpr c15
       subst c15
       have H1 : (some false) = some r := by rw [if_neg (show ¬ (false = true) by decide)] at H; exact H
       clear H
       have H := H1
       clear H1
       obtain rfl := Option.some.inj H
       exact absurd hr (by decide)
     ·
      rw [if_neg c13] at H
      exact absurd H (by simp)
    ·
     rw [if_neg c12] at H
     exact absurd H (by simp)

end Go.Proofs.Ytiiaififiijcnaa.PRightMeet
