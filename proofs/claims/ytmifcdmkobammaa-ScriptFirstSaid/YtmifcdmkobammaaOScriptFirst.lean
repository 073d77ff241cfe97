/- Layer 12: ScriptFirst, walked where it answers true. -/
import Derived.Test.YtmifcdmkobammaaQx0
import Derived.Test.YtmifcdmkobammaaY2
import Derived.Test.YtmifcdmkobammaaYh
namespace Go.Proofs.Ytmifcdmkobammaa.Q
open Go.RowKit Go.Proofs.YtmifcdmkobammaaW.PrintWords Go.Proofs.YtmifcdmkobammaaW.PrintLast Go.Proofs.YtmifcdmkobammaaW.PrintMore
open Go.Proofs.Ytmifcdmkobammaa.ScriptWalk (script_Right.f script_Right.calls script_put.f script_put.calls script_Get.f script_Get.calls script_Get.mono)
attribute [local go_sem] max2_int min2_int max_two min_two max_three min_three max_four min_four   -- for this text's walks alone
set_option linter.unusedVariables false
set_option linter.unusedSimpArgs false

/-! ### silhouettelaw12_ScriptFirst: function 9 -/
mutual
def silhouettelaw12_ScriptFirst.j0 : Nat → List (S31) → List Int → List Int → Int → Bool → Bool → Option (Bool)
  | 0, _, _, _, _, _, _ => none
  | k + 1, x0, x1, x2, x3, x9, x31 => if x31 = true then (some x9) else ((script_Put.f k x0).bind fun t345 => (if (t345.length : Int) = 0 then (silhouettelaw12_ScriptFirst.j1 k x0 x1 x2 x3 x9 t345 (decide ((x0.length : Int) > 0))) else (silhouettelaw12_ScriptFirst.j1 k x0 x1 x2 x3 x9 t345 false)))
def silhouettelaw12_ScriptFirst.j1 : Nat → List (S31) → List Int → List Int → Int → Bool → List Int → Bool → Option (Bool)
  | 0, _, _, _, _, _, _, _ => none
  | k + 1, x0, x1, x2, x3, x9, x10, x42 => if x42 = true then (some x9) else ((some (([] : List Int) : List Int)).bind fun y348 => (if y348.length + x10.length < 140737488355328 then ((some (y348 ++ x10 : List Int)).bind fun y351 => (if y351.length < 140737488355328 then ((some (y351 ++ [(9 + (Int.tmod x3 100)) % 256] : List Int)).bind fun y354 => (if y354.length + x1.length < 140737488355328 then ((script_Get.f k (y354 ++ x1)).bind fun bt360 => ((some (([] : List Int) : List Int)).bind fun y365 => (if y365.length + x10.length < 140737488355328 then ((some (y365 ++ x10 : List Int)).bind fun y368 => (if y368.length < 140737488355328 then ((some (y368 ++ [(9 + (Int.tmod x3 100)) % 256] : List Int)).bind fun y371 => (if y371.length + x2.length < 140737488355328 then ((script_Get.f k (y371 ++ x2)).bind fun bt377 => (if x9 = true then ((silhouetteref12_Same.f k bt360.1 x0).bind fun t382 => (if t382 = true then ((silhouetteref12_Same.f k bt377.1 x0).bind fun t383 => (if t383 = true then (if bt360.2.1 = (x10.length : Int) then (if bt377.2.1 = bt360.2.1 then (if bt360.2.2 = 12 then (some (bt377.2.2 == 12)) else (some false)) else (some false)) else (some false)) else (some false))) else (some false))) else (some false))) else (none))) else (none))) else (none)))) else (none))) else (none))) else (none)))
end
def silhouettelaw12_ScriptFirst.f (k : Nat) (l0 : List (S31)) (l1 : List Int) (l2 : List Int) (a3 : Int) : Option (Bool) := (silhouettelaw12_head.f).bind fun t344 => (if (l0.length : Int) > 200 then (silhouettelaw12_ScriptFirst.j0 k l0 l1 l2 a3 t344 true) else (if (l1.length : Int) > 900 then (silhouettelaw12_ScriptFirst.j0 k l0 l1 l2 a3 t344 true) else (silhouettelaw12_ScriptFirst.j0 k l0 l1 l2 a3 t344 (decide ((l2.length : Int) > 900)))))
theorem silhouettelaw12_ScriptFirst.mono_l : ∀ k, (∀ y0 y1 y2 y3 y4 y5, LeO (silhouettelaw12_ScriptFirst.j0 k y0 y1 y2 y3 y4 y5) (silhouettelaw12_ScriptFirst.j0 (k + 1) y0 y1 y2 y3 y4 y5)) ∧ (∀ y0 y1 y2 y3 y4 y5 y6, LeO (silhouettelaw12_ScriptFirst.j1 k y0 y1 y2 y3 y4 y5 y6) (silhouettelaw12_ScriptFirst.j1 (k + 1) y0 y1 y2 y3 y4 y5 y6))
  | 0 => ⟨fun _ _ _ _ _ _ r h => by simp [silhouettelaw12_ScriptFirst.j0] at h, fun _ _ _ _ _ _ _ r h => by simp [silhouettelaw12_ScriptFirst.j1] at h⟩
  | k + 1 => by
    obtain ⟨ih0, ih1⟩ := silhouettelaw12_ScriptFirst.mono_l k
    refine ⟨?_, ?_⟩
    · intro y0 y1 y2 y3 y4 y5
      unfold silhouettelaw12_ScriptFirst.j0
      repeat' first
      | (with_reducible exact ih0 _ _ _ _ _ _)
      | (with_reducible exact ih1 _ _ _ _ _ _ _)
      | (with_reducible exact script_Get.mono _ _)
      | (with_reducible exact script_Put.mono _ _)
      | (with_reducible exact silhouetteref12_Same.mono _ _ _)
      | (with_reducible exact LeO.refl _)
      | (with_reducible exact LeO.none _)
      | (with_reducible refine LeO.ite ?_ ?_)
      | (with_reducible refine LeO.bind ?_ (fun _ => ?_))
      | exact ih0 _ _ _ _ _ _
      | exact ih1 _ _ _ _ _ _ _
      | exact script_Get.mono _ _
      | exact script_Put.mono _ _
      | exact silhouetteref12_Same.mono _ _ _
      | exact LeO.none _
      | refine LeO.ite ?_ ?_
      | refine LeO.bind ?_ (fun _ => ?_)
    · intro y0 y1 y2 y3 y4 y5 y6
      unfold silhouettelaw12_ScriptFirst.j1
      repeat' first
      | (with_reducible exact ih0 _ _ _ _ _ _)
      | (with_reducible exact ih1 _ _ _ _ _ _ _)
      | (with_reducible exact script_Get.mono _ _)
      | (with_reducible exact script_Put.mono _ _)
      | (with_reducible exact silhouetteref12_Same.mono _ _ _)
      | (with_reducible exact LeO.refl _)
      | (with_reducible exact LeO.none _)
      | (with_reducible refine LeO.ite ?_ ?_)
      | (with_reducible refine LeO.bind ?_ (fun _ => ?_))
      | exact ih0 _ _ _ _ _ _
      | exact ih1 _ _ _ _ _ _ _
      | exact script_Get.mono _ _
      | exact script_Put.mono _ _
      | exact silhouetteref12_Same.mono _ _ _
      | exact LeO.none _
      | refine LeO.ite ?_ ?_
      | refine LeO.bind ?_ (fun _ => ?_)
theorem silhouettelaw12_ScriptFirst.mono : ∀ a0 a1 a2 a3 k, LeO (silhouettelaw12_ScriptFirst.f k a0 a1 a2 a3) (silhouettelaw12_ScriptFirst.f (k + 1) a0 a1 a2 a3) := by
  intro a0 a1 a2 a3 k
  obtain ⟨ih0, ih1⟩ := silhouettelaw12_ScriptFirst.mono_l k
  unfold silhouettelaw12_ScriptFirst.f
  repeat' first
      | (with_reducible exact ih0 _ _ _ _ _ _)
      | (with_reducible exact ih1 _ _ _ _ _ _ _)
      | (with_reducible exact script_Get.mono _ _)
      | (with_reducible exact script_Put.mono _ _)
      | (with_reducible exact silhouetteref12_Same.mono _ _ _)
      | (with_reducible exact LeO.refl _)
      | (with_reducible exact LeO.none _)
      | (with_reducible refine LeO.ite ?_ ?_)
      | (with_reducible refine LeO.bind ?_ (fun _ => ?_))
      | exact ih0 _ _ _ _ _ _
      | exact ih1 _ _ _ _ _ _ _
      | exact script_Get.mono _ _
      | exact script_Put.mono _ _
      | exact silhouetteref12_Same.mono _ _ _
      | exact LeO.none _
      | refine LeO.ite ?_ ?_
      | refine LeO.bind ?_ (fun _ => ?_)
set_option maxHeartbeats 8000000 in
set_option maxRecDepth 100000 in
theorem silhouettelaw12_ScriptFirst.calls (k : Nat) (A0 : Option Addr) (c0 : Nat) (l0 : List (S31)) (A1 : Option Addr) (c1 : Nat) (l1 : List Int) (A2 : Option Addr) (c2 : Nat) (l2 : List Int) (a3 : Int) (r : Bool) (hr : r = true) (w : World) (hr0 : Kd.C k31 w A0 l0.length l0) (hc0 : l0.length ≤ c0) (hr1 : Kd.C (Kd.int .u8) w A1 l1.length l1) (hc1 : l1.length ≤ c1) (hr2 : Kd.C (Kd.int .u8) w A2 l2.length l2) (hc2 : l2.length ≤ c2) (h : silhouettelaw12_ScriptFirst.f k l0 l1 l2 a3 = some r) :
    Calls Try.prog 9 #[.slice A0 l0.length c0, .slice A1 l1.length c1, .slice A2 l2.length c2, .int .u8 a3] w fun e w' => e = .returned (.bool r) ∧ Below w.heap.size w w' := by
  have HR0 := Aside0.mk hr0
  have HC0 := Aside0.mk hc0
  clear hr0 hc0
  have HR1 := Aside0.mk hr1
  have HC1 := Aside0.mk hc1
  clear hr1 hc1
  have HR2 := Aside0.mk hr2
  have HC2 := Aside0.mk hc2
  clear hr2 hc2
  have HB := Aside0.mk (Below.refl w.heap.size w)
  have H : ((silhouettelaw12_head.f).bind fun t344 => (if (l0.length : Int) > 200 then (silhouettelaw12_ScriptFirst.j0 k l0 l1 l2 a3 t344 true) else (if (l1.length : Int) > 900 then (silhouettelaw12_ScriptFirst.j0 k l0 l1 l2 a3 t344 true) else (silhouettelaw12_ScriptFirst.j0 k l0 l1 l2 a3 t344 (decide ((l2.length : Int) > 900)))))) = some r := h
  clear h
  replace H := Option.bind_eq_some_iff.mp H
  obtain ⟨t344, A50, H⟩ := H
  replace H : (if (l0.length : Int) > 200 then (silhouettelaw12_ScriptFirst.j0 k l0 l1 l2 a3 t344 true) else (if (l1.length : Int) > 900 then (silhouettelaw12_ScriptFirst.j0 k l0 l1 l2 a3 t344 true) else (silhouettelaw12_ScriptFirst.j0 k l0 l1 l2 a3 t344 (decide ((l2.length : Int) > 900))))) = some r := H
  have A5 := Aside0.mk A50
  clear A50
  have HC6 := Aside0.mk H
  clear H
  go_enter Try.func9, Try.ntmps9
  go_upto_region 2 with (first | ((with_reducible refine gate_callee (f := 10) rfl ?_); refine goesL_ (some 18) rfl rfl Try.func10 (by kernel_rfl) rfl #[] rfl (by (try simp only [List.map_toArray, List.map_cons, List.map_nil]); first | done | rfl | (simp only [List.length_drop, List.length_take]; rfl)) ?_; (with_reducible refine (silhouettelaw12_head.calls  t344 _ A5.out).mono ?_); rintro e w7 ⟨rfl, hb⟩; refine ⟨_, rfl, ?_⟩; have n0_ := Aside0.mk (below_step (by repeat (first | (with_reducible first | exact HB.out | apply below_alloc | apply pw_below_drewN | apply below_drew1) | exact HB.out)) hb); clear HB; have HB := n0_; clear n0_; (try clear hb); (try clear hb2); (try clear hk); (try clear hi)))
  (try simp only [Act.put, List.setIfInBounds_toArray, List.set_cons_zero, List.set_cons_succ])
  go_cut [31] (fun v31 wc => ∃ (kq : Nat) (x31_5 : Bool), v31 = .bool x31_5 ∧ Aside0 (silhouettelaw12_ScriptFirst.j0 kq l0 l1 l2 a3 t344 x31_5 = some r) ∧ Aside0 (kq ≤ k) ∧ Aside0 (Below w.heap.size w wc))
  case first =>
    have H := HC6.out
    clear HC6
    by_cases c8 : (l0.length : Int) > 200
    · rw [if_pos c8] at H
      have c8b0 : decide (200 < (l0.length : Int)) = true := decide_eq_true c8
      have c8b1 : decide (200 < l0.length) = true := decide_eq_true (by omega)
      clear c8
      (first | rw [c8b0] | (simp only [i64_w, i32_w]; rw [c8b0]) | skip)
      have H' := Aside0.mk H
      clear H
      go_wp2
      go_meet
      case rel => exact ⟨_, (true), (by first | rfl | (simp; done) | (simp [*]; done)), H', ⟨by first | omega | exact Nat.le_refl _⟩, ⟨by repeat (first | (with_reducible first | exact HB.out | apply below_alloc | apply pw_below_drewN | apply below_drew1) | exact HB.out)⟩⟩
    · rw [if_neg c8] at H
      have c8b0 : decide (200 < (l0.length : Int)) = false := decide_eq_false c8
      have c8b1 : decide (200 < l0.length) = false := decide_eq_false (by omega)
      clear c8
      (first | rw [c8b0] | (simp only [i64_w, i32_w]; rw [c8b0]) | skip)
      by_cases c9 : (l1.length : Int) > 900
      · rw [if_pos c9] at H
        have c9b0 : decide (900 < (l1.length : Int)) = true := decide_eq_true c9
        have c9b1 : decide (900 < l1.length) = true := decide_eq_true (by omega)
        clear c9
        have H' := Aside0.mk H
        clear H
        go_wp2
        go_meet
        case rel => exact ⟨_, (true), (by first | rfl | (simp; done) | (simp [*]; done)), H', ⟨by first | omega | exact Nat.le_refl _⟩, ⟨by repeat (first | (with_reducible first | exact HB.out | apply below_alloc | apply pw_below_drewN | apply below_drew1) | exact HB.out)⟩⟩
      · rw [if_neg c9] at H
        have c9b0 : decide (900 < (l1.length : Int)) = false := decide_eq_false c9
        have c9b1 : decide (900 < l1.length) = false := decide_eq_false (by omega)
        clear c9
        have H' := Aside0.mk H
        clear H
        go_wp2
        go_meet
        case rel => exact ⟨_, (decide ((l2.length : Int) > 900)), (by first | rfl | (simp; done) | (simp [*]; done)), H', ⟨by first | omega | exact Nat.le_refl _⟩, ⟨by repeat (first | (with_reducible first | exact HB.out | apply below_alloc | apply pw_below_drewN | apply below_drew1) | exact HB.out)⟩⟩
  case rest =>
    clear HC6
    try clear c1
    try clear c2
    try clear p2
    try clear c8
    try clear c8b0
    try clear c8b1
    try clear c9
    try clear c9b0
    try clear c9b1
    obtain ⟨kq, x31_5, rfl, HA, HJ5, HB⟩ := hcut
    cases kq with
    | zero => exact absurd HA.out (by simp [silhouettelaw12_ScriptFirst.j0])
    | succ kj5 =>
      have H := HA.out
      clear HA
      simp only [silhouettelaw12_ScriptFirst.j0] at H
      by_cases c10 : x31_5 = true
      · subst c10
        have H1 : (some t344) = some r := by rw [if_pos rfl] at H; exact H
        clear H
        have H := H1
        clear H1
        obtain rfl := Option.some.inj H
        go_wp2
        go_ret
        exact ⟨by first | rfl | (simp [errW_none, errW_some] <;> rfl) | (simp [*, errW_none, errW_some] <;> rfl), by repeat (first | (with_reducible first | exact HB.out | apply below_alloc | apply pw_below_drewN | apply below_drew1) | exact HB.out)⟩
      · replace c10 := Bool.eq_false_iff.mpr c10
        subst c10
        have H1 : ((script_Put.f kj5 l0).bind fun t345 => (if (t345.length : Int) = 0 then (silhouettelaw12_ScriptFirst.j1 kj5 l0 l1 l2 a3 t344 t345 (decide ((l0.length : Int) > 0))) else (silhouettelaw12_ScriptFirst.j1 kj5 l0 l1 l2 a3 t344 t345 false))) = some r := by rw [if_neg (show ¬ (false = true) by decide)] at H; exact H
        clear H
        have H := H1
        clear H1
        replace H := Option.bind_eq_some_iff.mp H
        obtain ⟨t345, A110, H⟩ := H
        replace H : (if (t345.length : Int) = 0 then (silhouettelaw12_ScriptFirst.j1 kj5 l0 l1 l2 a3 t344 t345 (decide ((l0.length : Int) > 0))) else (silhouettelaw12_ScriptFirst.j1 kj5 l0 l1 l2 a3 t344 t345 false)) = some r := H
        have A11 := Aside0.mk A110
        clear A110
        have HC12 := Aside0.mk H
        clear H
        go_upto_region 5 with (first | ((with_reducible refine gate_callee (f := 15) rfl ?_); refine goesL_ (some 34) rfl rfl Try.func15 (by kernel_rfl) rfl #[.slice A0 l0.length c0] rfl (by (try simp only [List.map_toArray, List.map_cons, List.map_nil]); first | done | rfl | (simp only [List.length_drop, List.length_take]; rfl)) ?_; (with_reducible refine (script_Put.calls kj5 _ _ l0 t345 _ ?side1 ?side2 A11.out).mono ?_); (case side1 => repeat (first | exact (Kd.C_below HR0.out HB.out) | (with_reducible refine Kd.C_alloc ?_ _) | (with_reducible refine Kd.C_drewN ?_ _) | (with_reducible refine Kd.C_drew ?_))); (case side2 => exact HC0.out); rintro e w13 ⟨v346, rfl, ho0, hb⟩; refine ⟨_, rfl, ?_⟩; have n0_ := Aside0.mk (Kd.R_lower ho0 (below_size (by repeat (first | (with_reducible first | exact HB.out | apply below_alloc | apply pw_below_drewN | apply below_drew1) | exact HB.out)))); have n1_ := Aside0.mk (below_step (by repeat (first | (with_reducible first | exact HB.out | apply below_alloc | apply pw_below_drewN | apply below_drew1) | exact HB.out)) hb); clear HB; have HO347 := n0_; have HB := n1_; clear n0_ n1_; (try clear hb); (try clear hb2); (try clear hk); (try clear hi); (try clear ho0)))
        (try simp only [Act.put, List.setIfInBounds_toArray, List.set_cons_zero, List.set_cons_succ])
        go_cut [42] (fun v42 wc => ∃ (kq : Nat) (x42_11 : Bool), v42 = .bool x42_11 ∧ Aside0 (silhouettelaw12_ScriptFirst.j1 kq l0 l1 l2 a3 t344 t345 x42_11 = some r) ∧ Aside0 (kq ≤ kj5) ∧ Aside0 (Kd.R (Kd.int .u8) 5 wc w.heap.size (fun _ => True) v346 t345) ∧ Aside0 (Below w.heap.size w wc))
        case first =>
          have H := HC12.out
          clear HC12
          by_cases c14 : (t345.length : Int) = 0
          · rw [if_pos c14] at H
            have c14b0 : ((t345.length : Int) == 0) = true := beq_iff_eq.mpr c14
            have c14b1 : ((t345.length : Int) != 0) = false := bne_eq_false_iff_eq.mpr c14
            clear c14
            (first | rw [c14b0] | (simp only [i64_w, i32_w]; rw [c14b0]) | skip)
            have H' := Aside0.mk H
            clear H
            obtain ⟨Ao15, co15, eo15⟩ := Kd.R_slice HO347.out
            subst eo15
            go_wp2
            go_meet
            case rel => exact ⟨_, (decide ((l0.length : Int) > 0)), (by first | rfl | (simp; done) | (simp [*]; done)), H', ⟨by have := HJ5.out; first | omega | exact Nat.le_refl _⟩, ⟨by (with_reducible repeat (first | apply Kd.R_alloc | apply Kd.R_drewN | apply Kd.R_drew)); exact HO347.out⟩, ⟨by repeat (first | (with_reducible first | exact HB.out | apply below_alloc | apply pw_below_drewN | apply below_drew1) | exact HB.out)⟩⟩
          · rw [if_neg c14] at H
            have c14b0 : ((t345.length : Int) == 0) = false := beq_eq_false_iff_ne.mpr c14
            have c14b1 : ((t345.length : Int) != 0) = true := bne_iff_ne.mpr c14
            have c14b2 : ¬ (t345 = []) := fun h_ => c14 (by rw [h_]; rfl)
            (first | rw [c14b0] | (simp only [i64_w, i32_w]; rw [c14b0]) | skip)
            have H' := Aside0.mk H
            clear H
            obtain ⟨Ao16, co16, eo16⟩ := Kd.R_slice HO347.out
            subst eo16
            go_wp2
            go_meet
            case rel => exact ⟨_, (false), (by first | rfl | (simp; done) | (simp [*]; done)), H', ⟨by have := HJ5.out; first | omega | exact Nat.le_refl _⟩, ⟨by (with_reducible repeat (first | apply Kd.R_alloc | apply Kd.R_drewN | apply Kd.R_drew)); exact HO347.out⟩, ⟨by repeat (first | (with_reducible first | exact HB.out | apply below_alloc | apply pw_below_drewN | apply below_drew1) | exact HB.out)⟩⟩
        case rest =>
          clear HC12
          try clear c1
          try clear c2
          try clear p2
          try clear c8
          try clear c8b0
          try clear c8b1
          try clear c9
          try clear c9b0
          try clear c9b1
          try clear c10
          try clear c14
          try clear c14b0
          try clear c14b1
          try clear c14b2
          try clear c15
          try clear p2
          obtain ⟨kq, x42_11, rfl, HA, HJ11, HO_10, HB⟩ := hcut
          cases kq with
          | zero => exact absurd HA.out (by simp [silhouettelaw12_ScriptFirst.j1])
          | succ kj11 =>
            have H := HA.out
            clear HA
            simp only [silhouettelaw12_ScriptFirst.j1] at H
            by_cases c17 : x42_11 = true
            · subst c17
              have H1 : (some t344) = some r := by rw [if_pos rfl] at H; exact H
              clear H
              have H := H1
              clear H1
              obtain rfl := Option.some.inj H
              go_wp2
              go_ret
              exact ⟨by first | rfl | (simp [errW_none, errW_some] <;> rfl) | (simp [*, errW_none, errW_some] <;> rfl), by repeat (first | (with_reducible first | exact HB.out | apply below_alloc | apply pw_below_drewN | apply below_drew1) | exact HB.out)⟩
            · replace c17 := Bool.eq_false_iff.mpr c17
              subst c17
              have H1 : ((some (([] : List Int) : List Int)).bind fun y348 => (if y348.length + t345.length < 140737488355328 then ((some (y348 ++ t345 : List Int)).bind fun y351 => (if y351.length < 140737488355328 then ((some (y351 ++ [(9 + (Int.tmod a3 100)) % 256] : List Int)).bind fun y354 => (if y354.length + l1.length < 140737488355328 then ((script_Get.f kj11 (y354 ++ l1)).bind fun bt360 => ((some (([] : List Int) : List Int)).bind fun y365 => (if y365.length + t345.length < 140737488355328 then ((some (y365 ++ t345 : List Int)).bind fun y368 => (if y368.length < 140737488355328 then ((some (y368 ++ [(9 + (Int.tmod a3 100)) % 256] : List Int)).bind fun y371 => (if y371.length + l2.length < 140737488355328 then ((script_Get.f kj11 (y371 ++ l2)).bind fun bt377 => (if t344 = true then ((silhouetteref12_Same.f kj11 bt360.1 l0).bind fun t382 => (if t382 = true then ((silhouetteref12_Same.f kj11 bt377.1 l0).bind fun t383 => (if t383 = true then (if bt360.2.1 = (t345.length : Int) then (if bt377.2.1 = bt360.2.1 then (if bt360.2.2 = 12 then (some (bt377.2.2 == 12)) else (some false)) else (some false)) else (some false)) else (some false))) else (some false))) else (some false))) else (none))) else (none))) else (none)))) else (none))) else (none))) else (none))) = some r := by rw [if_neg (show ¬ (false = true) by decide)] at H; exact H
              clear H
              have H := H1
              clear H1
              obtain ⟨y348, hy348⟩ : ∃ y_ : List Int, y_ = (([] : List Int)) := ⟨_, rfl⟩
              replace H : (if y348.length + t345.length < 140737488355328 then ((some (y348 ++ t345 : List Int)).bind fun y351 => (if y351.length < 140737488355328 then ((some (y351 ++ [(9 + (Int.tmod a3 100)) % 256] : List Int)).bind fun y354 => (if y354.length + l1.length < 140737488355328 then ((script_Get.f kj11 (y354 ++ l1)).bind fun bt360 => ((some (([] : List Int) : List Int)).bind fun y365 => (if y365.length + t345.length < 140737488355328 then ((some (y365 ++ t345 : List Int)).bind fun y368 => (if y368.length < 140737488355328 then ((some (y368 ++ [(9 + (Int.tmod a3 100)) % 256] : List Int)).bind fun y371 => (if y371.length + l2.length < 140737488355328 then ((script_Get.f kj11 (y371 ++ l2)).bind fun bt377 => (if t344 = true then ((silhouetteref12_Same.f kj11 bt360.1 l0).bind fun t382 => (if t382 = true then ((silhouetteref12_Same.f kj11 bt377.1 l0).bind fun t383 => (if t383 = true then (if bt360.2.1 = (t345.length : Int) then (if bt377.2.1 = bt360.2.1 then (if bt360.2.2 = 12 then (some (bt377.2.2 == 12)) else (some false)) else (some false)) else (some false)) else (some false))) else (some false))) else (some false))) else (none))) else (none))) else (none)))) else (none))) else (none))) else (none)) = some r := by first | (rw [hy348]; with_reducible exact H) | (have H2_ := (Option.bind_some _ _).symm.trans H; rw [hy348]; with_reducible exact H2_) | (have H2_ := (Option.bind_some _ _).symm.trans H; with_reducible exact H2_) | with_reducible exact H | (rw [hy348]; exact H) | exact H
              have Ny348 := Aside0.mk hy348
              clear hy348
              by_cases c18 : y348.length + t345.length < 140737488355328
              · rw [if_pos c18] at H
                have LMc18 := Aside0.mk c18
                clear c18
                obtain ⟨y351, hy351⟩ : ∃ y_ : List Int, y_ = (y348 ++ t345) := ⟨_, rfl⟩
                replace H : (if y351.length < 140737488355328 then ((some (y351 ++ [(9 + (Int.tmod a3 100)) % 256] : List Int)).bind fun y354 => (if y354.length + l1.length < 140737488355328 then ((script_Get.f kj11 (y354 ++ l1)).bind fun bt360 => ((some (([] : List Int) : List Int)).bind fun y365 => (if y365.length + t345.length < 140737488355328 then ((some (y365 ++ t345 : List Int)).bind fun y368 => (if y368.length < 140737488355328 then ((some (y368 ++ [(9 + (Int.tmod a3 100)) % 256] : List Int)).bind fun y371 => (if y371.length + l2.length < 140737488355328 then ((script_Get.f kj11 (y371 ++ l2)).bind fun bt377 => (if t344 = true then ((silhouetteref12_Same.f kj11 bt360.1 l0).bind fun t382 => (if t382 = true then ((silhouetteref12_Same.f kj11 bt377.1 l0).bind fun t383 => (if t383 = true then (if bt360.2.1 = (t345.length : Int) then (if bt377.2.1 = bt360.2.1 then (if bt360.2.2 = 12 then (some (bt377.2.2 == 12)) else (some false)) else (some false)) else (some false)) else (some false))) else (some false))) else (some false))) else (none))) else (none))) else (none)))) else (none))) else (none)) = some r := by first | (rw [hy351]; with_reducible exact H) | (have H2_ := (Option.bind_some _ _).symm.trans H; rw [hy351]; with_reducible exact H2_) | (have H2_ := (Option.bind_some _ _).symm.trans H; with_reducible exact H2_) | with_reducible exact H | (rw [hy351]; exact H) | exact H
                have Ny351 := Aside0.mk hy351
                clear hy351
                by_cases c19 : y351.length < 140737488355328
                · rw [if_pos c19] at H
                  have LMc19 := Aside0.mk c19
                  clear c19
                  obtain ⟨y354, hy354⟩ : ∃ y_ : List Int, y_ = (y351 ++ [(9 + (Int.tmod a3 100)) % 256]) := ⟨_, rfl⟩
                  replace H : (if y354.length + l1.length < 140737488355328 then ((script_Get.f kj11 (y354 ++ l1)).bind fun bt360 => ((some (([] : List Int) : List Int)).bind fun y365 => (if y365.length + t345.length < 140737488355328 then ((some (y365 ++ t345 : List Int)).bind fun y368 => (if y368.length < 140737488355328 then ((some (y368 ++ [(9 + (Int.tmod a3 100)) % 256] : List Int)).bind fun y371 => (if y371.length + l2.length < 140737488355328 then ((script_Get.f kj11 (y371 ++ l2)).bind fun bt377 => (if t344 = true then ((silhouetteref12_Same.f kj11 bt360.1 l0).bind fun t382 => (if t382 = true then ((silhouetteref12_Same.f kj11 bt377.1 l0).bind fun t383 => (if t383 = true then (if bt360.2.1 = (t345.length : Int) then (if bt377.2.1 = bt360.2.1 then (if bt360.2.2 = 12 then (some (bt377.2.2 == 12)) else (some false)) else (some false)) else (some false)) else (some false))) else (some false))) else (some false))) else (none))) else (none))) else (none)))) else (none)) = some r := by first | (rw [hy354]; with_reducible exact H) | (have H2_ := (Option.bind_some _ _).symm.trans H; rw [hy354]; with_reducible exact H2_) | (have H2_ := (Option.bind_some _ _).symm.trans H; with_reducible exact H2_) | with_reducible exact H | (rw [hy354]; exact H) | exact H
                  have Ny354 := Aside0.mk hy354
                  clear hy354
                  by_cases c20 : y354.length + l1.length < 140737488355328
                  · rw [if_pos c20] at H
                    have LMc20 := Aside0.mk c20
                    clear c20
                    obtain ⟨y357, hy357⟩ : ∃ y_ : List Int, y_ = (y354 ++ l1) := ⟨_, rfl⟩
                    replace H : ((script_Get.f kj11 y357).bind fun bt360 => ((some (([] : List Int) : List Int)).bind fun y365 => (if y365.length + t345.length < 140737488355328 then ((some (y365 ++ t345 : List Int)).bind fun y368 => (if y368.length < 140737488355328 then ((some (y368 ++ [(9 + (Int.tmod a3 100)) % 256] : List Int)).bind fun y371 => (if y371.length + l2.length < 140737488355328 then ((script_Get.f kj11 (y371 ++ l2)).bind fun bt377 => (if t344 = true then ((silhouetteref12_Same.f kj11 bt360.1 l0).bind fun t382 => (if t382 = true then ((silhouetteref12_Same.f kj11 bt377.1 l0).bind fun t383 => (if t383 = true then (if bt360.2.1 = (t345.length : Int) then (if bt377.2.1 = bt360.2.1 then (if bt360.2.2 = 12 then (some (bt377.2.2 == 12)) else (some false)) else (some false)) else (some false)) else (some false))) else (some false))) else (some false))) else (none))) else (none))) else (none)))) = some r := by first | (rw [hy357]; with_reducible exact H) | (have H2_ := (Option.bind_some _ _).symm.trans H; rw [hy357]; with_reducible exact H2_) | (have H2_ := (Option.bind_some _ _).symm.trans H; with_reducible exact H2_) | with_reducible exact H | (rw [hy357]; exact H) | exact H
                    have Ny357 := Aside0.mk hy357
                    clear hy357
                    replace H := Option.bind_eq_some_iff.mp H
                    obtain ⟨⟨t360, t361, t362⟩, A210, H⟩ := H
                    replace H : ((some (([] : List Int) : List Int)).bind fun y365 => (if y365.length + t345.length < 140737488355328 then ((some (y365 ++ t345 : List Int)).bind fun y368 => (if y368.length < 140737488355328 then ((some (y368 ++ [(9 + (Int.tmod a3 100)) % 256] : List Int)).bind fun y371 => (if y371.length + l2.length < 140737488355328 then ((script_Get.f kj11 (y371 ++ l2)).bind fun bt377 => (if t344 = true then ((silhouetteref12_Same.f kj11 t360 l0).bind fun t382 => (if t382 = true then ((silhouetteref12_Same.f kj11 bt377.1 l0).bind fun t383 => (if t383 = true then (if t361 = (t345.length : Int) then (if bt377.2.1 = t361 then (if t362 = 12 then (some (bt377.2.2 == 12)) else (some false)) else (some false)) else (some false)) else (some false))) else (some false))) else (some false))) else (none))) else (none))) else (none))) = some r := H
                    have A21 := Aside0.mk A210
                    clear A210
                    obtain ⟨y365, hy365⟩ : ∃ y_ : List Int, y_ = (([] : List Int)) := ⟨_, rfl⟩
                    replace H : (if y365.length + t345.length < 140737488355328 then ((some (y365 ++ t345 : List Int)).bind fun y368 => (if y368.length < 140737488355328 then ((some (y368 ++ [(9 + (Int.tmod a3 100)) % 256] : List Int)).bind fun y371 => (if y371.length + l2.length < 140737488355328 then ((script_Get.f kj11 (y371 ++ l2)).bind fun bt377 => (if t344 = true then ((silhouetteref12_Same.f kj11 t360 l0).bind fun t382 => (if t382 = true then ((silhouetteref12_Same.f kj11 bt377.1 l0).bind fun t383 => (if t383 = true then (if t361 = (t345.length : Int) then (if bt377.2.1 = t361 then (if t362 = 12 then (some (bt377.2.2 == 12)) else (some false)) else (some false)) else (some false)) else (some false))) else (some false))) else (some false))) else (none))) else (none))) else (none)) = some r := by first | (rw [hy365]; with_reducible exact H) | (have H2_ := (Option.bind_some _ _).symm.trans H; rw [hy365]; with_reducible exact H2_) | (have H2_ := (Option.bind_some _ _).symm.trans H; with_reducible exact H2_) | with_reducible exact H | (rw [hy365]; exact H) | exact H
                    have Ny365 := Aside0.mk hy365
                    clear hy365
                    by_cases c22 : y365.length + t345.length < 140737488355328
                    · rw [if_pos c22] at H
                      have LMc22 := Aside0.mk c22
                      clear c22
                      obtain ⟨y368, hy368⟩ : ∃ y_ : List Int, y_ = (y365 ++ t345) := ⟨_, rfl⟩
                      replace H : (if y368.length < 140737488355328 then ((some (y368 ++ [(9 + (Int.tmod a3 100)) % 256] : List Int)).bind fun y371 => (if y371.length + l2.length < 140737488355328 then ((script_Get.f kj11 (y371 ++ l2)).bind fun bt377 => (if t344 = true then ((silhouetteref12_Same.f kj11 t360 l0).bind fun t382 => (if t382 = true then ((silhouetteref12_Same.f kj11 bt377.1 l0).bind fun t383 => (if t383 = true then (if t361 = (t345.length : Int) then (if bt377.2.1 = t361 then (if t362 = 12 then (some (bt377.2.2 == 12)) else (some false)) else (some false)) else (some false)) else (some false))) else (some false))) else (some false))) else (none))) else (none)) = some r := by first | (rw [hy368]; with_reducible exact H) | (have H2_ := (Option.bind_some _ _).symm.trans H; rw [hy368]; with_reducible exact H2_) | (have H2_ := (Option.bind_some _ _).symm.trans H; with_reducible exact H2_) | with_reducible exact H | (rw [hy368]; exact H) | exact H
                      have Ny368 := Aside0.mk hy368
                      clear hy368
                      by_cases c23 : y368.length < 140737488355328
                      · rw [if_pos c23] at H
                        have LMc23 := Aside0.mk c23
                        clear c23
                        obtain ⟨y371, hy371⟩ : ∃ y_ : List Int, y_ = (y368 ++ [(9 + (Int.tmod a3 100)) % 256]) := ⟨_, rfl⟩
                        replace H : (if y371.length + l2.length < 140737488355328 then ((script_Get.f kj11 (y371 ++ l2)).bind fun bt377 => (if t344 = true then ((silhouetteref12_Same.f kj11 t360 l0).bind fun t382 => (if t382 = true then ((silhouetteref12_Same.f kj11 bt377.1 l0).bind fun t383 => (if t383 = true then (if t361 = (t345.length : Int) then (if bt377.2.1 = t361 then (if t362 = 12 then (some (bt377.2.2 == 12)) else (some false)) else (some false)) else (some false)) else (some false))) else (some false))) else (some false))) else (none)) = some r := by first | (rw [hy371]; with_reducible exact H) | (have H2_ := (Option.bind_some _ _).symm.trans H; rw [hy371]; with_reducible exact H2_) | (have H2_ := (Option.bind_some _ _).symm.trans H; with_reducible exact H2_) | with_reducible exact H | (rw [hy371]; exact H) | exact H
                        have Ny371 := Aside0.mk hy371
                        clear hy371
                        by_cases c24 : y371.length + l2.length < 140737488355328
                        · rw [if_pos c24] at H
                          have LMc24 := Aside0.mk c24
                          clear c24
                          obtain ⟨y374, hy374⟩ : ∃ y_ : List Int, y_ = (y371 ++ l2) := ⟨_, rfl⟩
                          replace H : ((script_Get.f kj11 y374).bind fun bt377 => (if t344 = true then ((silhouetteref12_Same.f kj11 t360 l0).bind fun t382 => (if t382 = true then ((silhouetteref12_Same.f kj11 bt377.1 l0).bind fun t383 => (if t383 = true then (if t361 = (t345.length : Int) then (if bt377.2.1 = t361 then (if t362 = 12 then (some (bt377.2.2 == 12)) else (some false)) else (some false)) else (some false)) else (some false))) else (some false))) else (some false))) = some r := by first | (rw [hy374]; with_reducible exact H) | (have H2_ := (Option.bind_some _ _).symm.trans H; rw [hy374]; with_reducible exact H2_) | (have H2_ := (Option.bind_some _ _).symm.trans H; with_reducible exact H2_) | with_reducible exact H | (rw [hy374]; exact H) | exact H
                          have Ny374 := Aside0.mk hy374
                          clear hy374
                          replace H := Option.bind_eq_some_iff.mp H
                          obtain ⟨⟨t377, t378, t379⟩, A250, H⟩ := H
                          replace H : (if t344 = true then ((silhouetteref12_Same.f kj11 t360 l0).bind fun t382 => (if t382 = true then ((silhouetteref12_Same.f kj11 t377 l0).bind fun t383 => (if t383 = true then (if t361 = (t345.length : Int) then (if t378 = t361 then (if t362 = 12 then (some (t379 == 12)) else (some false)) else (some false)) else (some false)) else (some false))) else (some false))) else (some false)) = some r := H
                          have A25 := Aside0.mk A250
                          clear A250
                          by_cases c26 : t344 = true
                          · subst c26
                            have H1 : ((silhouetteref12_Same.f kj11 t360 l0).bind fun t382 => (if t382 = true then ((silhouetteref12_Same.f kj11 t377 l0).bind fun t383 => (if t383 = true then (if t361 = (t345.length : Int) then (if t378 = t361 then (if t362 = 12 then (some (t379 == 12)) else (some false)) else (some false)) else (some false)) else (some false))) else (some false))) = some r := by rw [if_pos rfl] at H; exact H
                            clear H
                            have H := H1
                            clear H1
                            replace H := Option.bind_eq_some_iff.mp H
                            obtain ⟨t382, A270, H⟩ := H
                            replace H : (if t382 = true then ((silhouetteref12_Same.f kj11 t377 l0).bind fun t383 => (if t383 = true then (if t361 = (t345.length : Int) then (if t378 = t361 then (if t362 = 12 then (some (t379 == 12)) else (some false)) else (some false)) else (some false)) else (some false))) else (some false)) = some r := H
                            have A27 := Aside0.mk A270
                            clear A270
                            by_cases c28 : t382 = true
                            · subst c28
                              have H1 : ((silhouetteref12_Same.f kj11 t377 l0).bind fun t383 => (if t383 = true then (if t361 = (t345.length : Int) then (if t378 = t361 then (if t362 = 12 then (some (t379 == 12)) else (some false)) else (some false)) else (some false)) else (some false))) = some r := by rw [if_pos rfl] at H; exact H
                              clear H
                              have H := H1
                              clear H1
                              replace H := Option.bind_eq_some_iff.mp H
                              obtain ⟨t383, A290, H⟩ := H
                              replace H : (if t383 = true then (if t361 = (t345.length : Int) then (if t378 = t361 then (if t362 = 12 then (some (t379 == 12)) else (some false)) else (some false)) else (some false)) else (some false)) = some r := H
                              have A29 := Aside0.mk A290
                              clear A290
                              by_cases c30 : t383 = true
                              · subst c30
                                have H1 : (if t361 = (t345.length : Int) then (if t378 = t361 then (if t362 = 12 then (some (t379 == 12)) else (some false)) else (some false)) else (some false)) = some r := by rw [if_pos rfl] at H; exact H
                                clear H
                                have H := H1
                                clear H1
                                by_cases c31 : t361 = (t345.length : Int)
                                · rw [if_pos c31] at H
                                  have c31b0 : (t361 == (t345.length : Int)) = true := beq_iff_eq.mpr c31
                                  have c31b1 : (t361 != (t345.length : Int)) = false := bne_eq_false_iff_eq.mpr c31
                                  clear c31
                                  by_cases c32 : t378 = t361
                                  · rw [if_pos c32] at H
                                    have c32b0 : (t378 == t361) = true := beq_iff_eq.mpr c32
                                    have c32b1 : (t378 != t361) = false := bne_eq_false_iff_eq.mpr c32
                                    clear c32
                                    by_cases c33 : t362 = 12
                                    · rw [if_pos c33] at H
                                      have c33b0 : (t362 == 12) = true := beq_iff_eq.mpr c33
                                      have c33b1 : (t362 != 12) = false := bne_eq_false_iff_eq.mpr c33
                                      clear c33
                                      obtain rfl := Option.some.inj H
                                      go_wp2_with (first | ((with_reducible refine gate_dst (N := 48) rfl ?_); (try (refine gate_guard (by rfl) ?_; dsimp only)); refine Kd.R_lit (Kd.int .u8) _ 5 ?hg (N := 48) ?hd (xs := ([] : List Int)) (inner := []) (ok := fun _ => True) (okp := fun _ => True) ?hr ?hp (fun _ hk => hk) trivial (Below.refl _ _) (Nat.le_refl _) (by simp) ?_; (case hd => rfl); (case hg => rfl); (case hr => first | (go_simp; done) | (go_simp; rfl)); (case hp => exact (Reps.none _ _)); intro v349 w34 ho35 hb hg_ hnew_; clear hg_ hnew_; (first | rw [← Ny348.out] at ho35 | (simp only [Int.reduceToNat] at ho35; rw [← Ny348.out] at ho35)); have n0_ := Aside0.mk (Kd.R_elder' (by (with_reducible repeat (first | apply Kd.R_alloc | apply Kd.R_drewN | apply Kd.R_drew)); exact HO_10.out) (Kd.R_base ho35) hb); have n1_ := Aside0.mk (Kd.R_lower (Kd.R_new' ho35 (Kd.R_lt (by (with_reducible repeat (first | apply Kd.R_alloc | apply Kd.R_drewN | apply Kd.R_drew)); exact HO_10.out))) (below_size (by repeat (first | (with_reducible first | exact HB.out | apply below_alloc | apply pw_below_drewN | apply below_drew1) | exact HB.out)))); have n2_ := Aside0.mk (below_step (by repeat (first | (with_reducible first | exact HB.out | apply below_alloc | apply pw_below_drewN | apply below_drew1) | exact HB.out)) hb); clear HO_10; clear HB; have HO_10 := n0_; have HO350 := n1_; have HB := n2_; clear n0_ n1_ n2_; clear hb ho35; obtain ⟨Ao37, co37, eo37⟩ := Kd.R_slice HO_10.out; subst eo37) | ((with_reducible refine gate_builtin (b := .append) (xs := #[.tmp 48, .tmp 49]) rfl ?_); (try (refine gate_guard (by rfl) ?_; dsimp only)); at_builtin; refine Kd.R_append_rows (Kd.int .u8) (w0 := w) w.heap.size rfl (.tmp 48) (.tmp 49) 23 5 (.int .u8 0) 1 rfl Try.underlying23 info5 rfl (by decide) (by omega) v349 y348 t345 _ _ _ (fun k_ => some k_ ≠ (.slice Ao37 t345.length co37 : Value).ownBlock) (fun _ => False) rfl rfl ?aO ?aR (fun _ _ h => h) (fun _ h => h.elim) ?aF ?aB ?aS ?aL ?_; (case aR => repeat (first | exact (Kd.R_reads' HO_10.out).2.2 | (with_reducible refine Kd.C_alloc ?_ _) | (with_reducible refine Kd.C_drewN ?_ _) | (with_reducible refine Kd.C_drew ?_))); (case aB => exact (by repeat (first | (with_reducible first | exact HB.out | apply below_alloc | apply pw_below_drewN | apply below_drew1) | exact HB.out))); (case aF => exact (fun k_ hk => Kd.fresh' (Kd.R_lt (by (with_reducible repeat (first | apply Kd.R_alloc | apply Kd.R_drewN | apply Kd.R_drew)); exact HO_10.out)) k_ hk)); (case aO => exact (by (with_reducible repeat (first | apply Kd.R_alloc | apply Kd.R_drewN | apply Kd.R_drew)); exact Kd.R_mono HO350.out (fun _ hk => hk.2))); (case aS => exact (below_size (by repeat (first | (with_reducible first | exact HB.out | apply below_alloc | apply pw_below_drewN | apply below_drew1) | exact HB.out)))); (case aL => have := LMc18.out; omega); intro v352 w36 ho hb hg hat; rw [← Ny351.out] at ho; have n0_ := Aside0.mk (Kd.R_after (ok := (fun _ => True)) (by (with_reducible repeat (first | apply Kd.R_alloc | apply Kd.R_drewN | apply Kd.R_drew)); exact HO_10.out) hg hat); have n1_ := Aside0.mk (hb); have n2_ := Aside0.mk (ho); clear HO_10; clear HB; clear HO350; have HO_10 := n0_; have HB := n1_; have HO353 := n2_; clear n0_ n1_ n2_; clear ho hb hg hat) | ((with_reducible refine gate_builtin (b := .append) (xs := #[.tmp 50, .tmp 52]) rfl ?_); (try (refine gate_guard (by rfl) ?_; dsimp only)); at_builtin; refine Kd.R_append (Kd.int .u8) (w0 := w) w.heap.size rfl (.tmp 50) (.tmp 52) 23 5 (.int .u8 0) 1 rfl Try.underlying23 info5 rfl (by decide) (by omega) v352 y351 ((9 + (Int.tmod a3 100)) % 256) [.int .u8 ((9 + (Int.tmod a3 100)) % 256)] (fun k_ => some k_ ≠ (.slice Ao37 t345.length co37 : Value).ownBlock) (fun _ => False) rfl rfl ?aP (fun _ hk => hk.elim) ?aF ?aO ?aB ?aS ?aL ?_; (case aP => exact rfl); (case aB => exact (by repeat (first | (with_reducible first | exact HB.out | apply below_alloc | apply pw_below_drewN | apply below_drew1) | exact HB.out))); (case aF => exact (fun k_ hk => Kd.fresh' (Kd.R_lt (by (with_reducible repeat (first | apply Kd.R_alloc | apply Kd.R_drewN | apply Kd.R_drew)); exact HO_10.out)) k_ hk)); (case aO => exact (by (with_reducible repeat (first | apply Kd.R_alloc | apply Kd.R_drewN | apply Kd.R_drew)); exact HO353.out)); (case aS => exact (below_size (by repeat (first | (with_reducible first | exact HB.out | apply below_alloc | apply pw_below_drewN | apply below_drew1) | exact HB.out)))); (case aL => have := LMc19.out; omega); intro v355 w38 ho hb hg hat; rw [← Ny354.out] at ho; have n0_ := Aside0.mk (Kd.R_after (ok := (fun _ => True)) (by (with_reducible repeat (first | apply Kd.R_alloc | apply Kd.R_drewN | apply Kd.R_drew)); exact HO_10.out) hg hat); have n1_ := Aside0.mk (hb); have n2_ := Aside0.mk (ho); clear HO_10; clear HB; clear HO353; have HO_10 := n0_; have HB := n1_; have HO356 := n2_; clear n0_ n1_ n2_; clear ho hb hg hat) | ((with_reducible refine gate_builtin (b := .append) (xs := #[.tmp 53, .tmp 54]) rfl ?_); (try (refine gate_guard (by rfl) ?_; dsimp only)); at_builtin; refine Kd.R_append_rows (Kd.int .u8) (w0 := w) w.heap.size rfl (.tmp 53) (.tmp 54) 23 5 (.int .u8 0) 1 rfl Try.underlying23 info5 rfl (by decide) (by omega) v355 y354 l1 _ _ _ (fun k_ => some k_ ≠ (.slice Ao37 t345.length co37 : Value).ownBlock) (fun _ => False) rfl rfl ?aO ?aR (fun _ _ h => h) (fun _ h => h.elim) ?aF ?aB ?aS ?aL ?_; (case aR => repeat (first | exact (Kd.C_below HR1.out HB.out) | (with_reducible refine Kd.C_alloc ?_ _) | (with_reducible refine Kd.C_drewN ?_ _) | (with_reducible refine Kd.C_drew ?_))); (case aB => exact (by repeat (first | (with_reducible first | exact HB.out | apply below_alloc | apply pw_below_drewN | apply below_drew1) | exact HB.out))); (case aF => exact (fun k_ hk => Kd.fresh' (Kd.R_lt (by (with_reducible repeat (first | apply Kd.R_alloc | apply Kd.R_drewN | apply Kd.R_drew)); exact HO_10.out)) k_ hk)); (case aO => exact (by (with_reducible repeat (first | apply Kd.R_alloc | apply Kd.R_drewN | apply Kd.R_drew)); exact HO356.out)); (case aS => exact (below_size (by repeat (first | (with_reducible first | exact HB.out | apply below_alloc | apply pw_below_drewN | apply below_drew1) | exact HB.out)))); (case aL => have := LMc20.out; omega); intro v358 w39 ho hb hg hat; rw [← Ny357.out] at ho; have n0_ := Aside0.mk (Kd.R_after (ok := (fun _ => True)) (by (with_reducible repeat (first | apply Kd.R_alloc | apply Kd.R_drewN | apply Kd.R_drew)); exact HO_10.out) hg hat); have n1_ := Aside0.mk (hb); have n2_ := Aside0.mk (ho); clear HO_10; clear HB; clear HO356; have HO_10 := n0_; have HB := n1_; have HO359 := n2_; clear n0_ n1_ n2_; clear ho hb hg hat; obtain ⟨Ao40, co40, eo40⟩ := Kd.R_slice HO359.out; subst eo40) | ((with_reducible refine gate_callee (f := 11) rfl ?_); refine goesL_ (some 56) rfl rfl Try.func11 (by kernel_rfl) rfl #[.slice Ao40 y357.length co40] rfl (by (try simp only [List.map_toArray, List.map_cons, List.map_nil]); first | done | rfl | (simp only [List.length_drop, List.length_take]; rfl)) ?_; (with_reducible refine (script_Get.calls kj11 _ _ y357 t360 t361 t362 _ ?side1 ?side2 A21.out).mono ?_); (case side1 => repeat (first | exact (Kd.R_reads' HO359.out).2.2 | (with_reducible refine Kd.C_alloc ?_ _) | (with_reducible refine Kd.C_drewN ?_ _) | (with_reducible refine Kd.C_drew ?_))); (case side2 => exact (Kd.R_reads' HO359.out).2.1); rintro e w41 ⟨v363, rfl, ho0, hb⟩; refine ⟨_, rfl, ?_⟩; have n0_ := Aside0.mk (Kd.R_below (by (with_reducible repeat (first | apply Kd.R_alloc | apply Kd.R_drewN | apply Kd.R_drew)); exact HO_10.out) hb); have n1_ := Aside0.mk (Kd.R_below (by (with_reducible repeat (first | apply Kd.R_alloc | apply Kd.R_drewN | apply Kd.R_drew)); exact HO359.out) hb); have n2_ := Aside0.mk (Kd.R_lower ho0 (below_size (by repeat (first | (with_reducible first | exact HB.out | apply below_alloc | apply pw_below_drewN | apply below_drew1) | exact HB.out)))); have n3_ := Aside0.mk (below_step (by repeat (first | (with_reducible first | exact HB.out | apply below_alloc | apply pw_below_drewN | apply below_drew1) | exact HB.out)) hb); clear HO_10; clear HO359; clear HB; have HO_10 := n0_; have HO359 := n1_; have HO364 := n2_; have HB := n3_; clear n0_ n1_ n2_ n3_; (try clear hb); (try clear hb2); (try clear hk); (try clear hi); (try clear ho0)) | ((with_reducible refine gate_dst (N := 61) rfl ?_); (try (refine gate_guard (by rfl) ?_; dsimp only)); refine Kd.R_lit (Kd.int .u8) _ 5 ?hg (N := 61) ?hd (xs := ([] : List Int)) (inner := []) (ok := fun _ => True) (okp := fun _ => True) ?hr ?hp (fun _ hk => hk) trivial (Below.refl _ _) (Nat.le_refl _) (by simp) ?_; (case hd => rfl); (case hg => rfl); (case hr => first | (go_simp; done) | (go_simp; rfl)); (case hp => exact (Reps.none _ _)); intro v366 w42 ho43 hb hg_ hnew_; clear hg_ hnew_; (first | rw [← Ny365.out] at ho43 | (simp only [Int.reduceToNat] at ho43; rw [← Ny365.out] at ho43)); have n0_ := Aside0.mk (Kd.R_elder' (by (with_reducible repeat (first | apply Kd.R_alloc | apply Kd.R_drewN | apply Kd.R_drew)); exact HO_10.out) (Kd.R_base ho43) hb); have n1_ := Aside0.mk (Kd.R_elder' (by (with_reducible repeat (first | apply Kd.R_alloc | apply Kd.R_drewN | apply Kd.R_drew)); exact HO359.out) (Kd.R_base ho43) hb); have n2_ := Aside0.mk (Kd.R_below (by (with_reducible repeat (first | apply Kd.R_alloc | apply Kd.R_drewN | apply Kd.R_drew)); exact HO364.out) hb); have n3_ := Aside0.mk (Kd.R_lower (Kd.R_new' (Kd.R_new' ho43 (Kd.R_lt (by (with_reducible repeat (first | apply Kd.R_alloc | apply Kd.R_drewN | apply Kd.R_drew)); exact HO_10.out))) (Kd.R_lt (by (with_reducible repeat (first | apply Kd.R_alloc | apply Kd.R_drewN | apply Kd.R_drew)); exact HO359.out))) (below_size (by repeat (first | (with_reducible first | exact HB.out | apply below_alloc | apply pw_below_drewN | apply below_drew1) | exact HB.out)))); have n4_ := Aside0.mk (below_step (by repeat (first | (with_reducible first | exact HB.out | apply below_alloc | apply pw_below_drewN | apply below_drew1) | exact HB.out)) hb); clear HO_10; clear HO359; clear HO364; clear HB; have HO_10 := n0_; have HO359 := n1_; have HO364 := n2_; have HO367 := n3_; have HB := n4_; clear n0_ n1_ n2_ n3_ n4_; clear hb ho43) | ((with_reducible refine gate_builtin (b := .append) (xs := #[.tmp 61, .tmp 62]) rfl ?_); (try (refine gate_guard (by rfl) ?_; dsimp only)); at_builtin; refine Kd.R_append_rows (Kd.int .u8) (w0 := w) w.heap.size rfl (.tmp 61) (.tmp 62) 23 5 (.int .u8 0) 1 rfl Try.underlying23 info5 rfl (by decide) (by omega) v366 y365 t345 _ _ _ (fun k_ => some k_ ≠ (.slice Ao37 t345.length co37 : Value).ownBlock ∧ some k_ ≠ (.slice Ao40 y357.length co40 : Value).ownBlock) (fun _ => False) rfl rfl ?aO ?aR (fun _ _ h => h) (fun _ h => h.elim) ?aF ?aB ?aS ?aL ?_; (case aR => repeat (first | exact (Kd.R_reads' HO_10.out).2.2 | (with_reducible refine Kd.C_alloc ?_ _) | (with_reducible refine Kd.C_drewN ?_ _) | (with_reducible refine Kd.C_drew ?_))); (case aB => exact (by repeat (first | (with_reducible first | exact HB.out | apply below_alloc | apply pw_below_drewN | apply below_drew1) | exact HB.out))); (case aF => exact (fun k_ hk => ⟨Kd.fresh' (Kd.R_lt (by (with_reducible repeat (first | apply Kd.R_alloc | apply Kd.R_drewN | apply Kd.R_drew)); exact HO_10.out)) k_ hk, Kd.fresh' (Kd.R_lt (by (with_reducible repeat (first | apply Kd.R_alloc | apply Kd.R_drewN | apply Kd.R_drew)); exact HO359.out)) k_ hk⟩)); (case aO => exact (by (with_reducible repeat (first | apply Kd.R_alloc | apply Kd.R_drewN | apply Kd.R_drew)); exact Kd.R_mono HO367.out (fun _ hk => ⟨hk.1.2, hk.2⟩))); (case aS => exact (below_size (by repeat (first | (with_reducible first | exact HB.out | apply below_alloc | apply pw_below_drewN | apply below_drew1) | exact HB.out)))); (case aL => have := LMc22.out; omega); intro v369 w44 ho hb hg hat; rw [← Ny368.out] at ho; have n0_ := Aside0.mk (Kd.R_after (ok := (fun k_ => some k_ ≠ (.slice Ao40 y357.length co40 : Value).ownBlock)) (by (with_reducible repeat (first | apply Kd.R_alloc | apply Kd.R_drewN | apply Kd.R_drew)); exact Kd.R_mono HO_10.out (fun _ hk => ⟨hk.1.2, hk.2⟩)) hg hat); have n1_ := Aside0.mk (Kd.R_after (ok := (fun k_ => some k_ ≠ (.slice Ao37 t345.length co37 : Value).ownBlock)) (by (with_reducible repeat (first | apply Kd.R_alloc | apply Kd.R_drewN | apply Kd.R_drew)); exact HO359.out) hg hat); have n2_ := Aside0.mk (Kd.R_over' (by (with_reducible repeat (first | apply Kd.R_alloc | apply Kd.R_drewN | apply Kd.R_drew)); exact HO364.out) (Kd.R_typed (by (with_reducible repeat (first | apply Kd.R_alloc | apply Kd.R_drewN | apply Kd.R_drew)); exact HO367.out)) (by decide) hg); have n3_ := Aside0.mk (hb); have n4_ := Aside0.mk (ho); clear HO_10; clear HO359; clear HO364; clear HB; clear HO367; have HO_10 := n0_; have HO359 := n1_; have HO364 := n2_; have HB := n3_; have HO370 := n4_; clear n0_ n1_ n2_ n3_ n4_; clear ho hb hg hat) | ((with_reducible refine gate_builtin (b := .append) (xs := #[.tmp 63, .tmp 65]) rfl ?_); (try (refine gate_guard (by rfl) ?_; dsimp only)); at_builtin; refine Kd.R_append (Kd.int .u8) (w0 := w) w.heap.size rfl (.tmp 63) (.tmp 65) 23 5 (.int .u8 0) 1 rfl Try.underlying23 info5 rfl (by decide) (by omega) v369 y368 ((9 + (Int.tmod a3 100)) % 256) [.int .u8 ((9 + (Int.tmod a3 100)) % 256)] (fun k_ => some k_ ≠ (.slice Ao37 t345.length co37 : Value).ownBlock ∧ some k_ ≠ (.slice Ao40 y357.length co40 : Value).ownBlock) (fun _ => False) rfl rfl ?aP (fun _ hk => hk.elim) ?aF ?aO ?aB ?aS ?aL ?_; (case aP => exact rfl); (case aB => exact (by repeat (first | (with_reducible first | exact HB.out | apply below_alloc | apply pw_below_drewN | apply below_drew1) | exact HB.out))); (case aF => exact (fun k_ hk => ⟨Kd.fresh' (Kd.R_lt (by (with_reducible repeat (first | apply Kd.R_alloc | apply Kd.R_drewN | apply Kd.R_drew)); exact HO_10.out)) k_ hk, Kd.fresh' (Kd.R_lt (by (with_reducible repeat (first | apply Kd.R_alloc | apply Kd.R_drewN | apply Kd.R_drew)); exact HO359.out)) k_ hk⟩)); (case aO => exact (by (with_reducible repeat (first | apply Kd.R_alloc | apply Kd.R_drewN | apply Kd.R_drew)); exact HO370.out)); (case aS => exact (below_size (by repeat (first | (with_reducible first | exact HB.out | apply below_alloc | apply pw_below_drewN | apply below_drew1) | exact HB.out)))); (case aL => have := LMc23.out; omega); intro v372 w45 ho hb hg hat; rw [← Ny371.out] at ho; have n0_ := Aside0.mk (Kd.R_after (ok := (fun k_ => some k_ ≠ (.slice Ao40 y357.length co40 : Value).ownBlock)) (by (with_reducible repeat (first | apply Kd.R_alloc | apply Kd.R_drewN | apply Kd.R_drew)); exact HO_10.out) hg hat); have n1_ := Aside0.mk (Kd.R_after (ok := (fun k_ => some k_ ≠ (.slice Ao37 t345.length co37 : Value).ownBlock)) (by (with_reducible repeat (first | apply Kd.R_alloc | apply Kd.R_drewN | apply Kd.R_drew)); exact HO359.out) hg hat); have n2_ := Aside0.mk (Kd.R_over' (by (with_reducible repeat (first | apply Kd.R_alloc | apply Kd.R_drewN | apply Kd.R_drew)); exact HO364.out) (Kd.R_typed (by (with_reducible repeat (first | apply Kd.R_alloc | apply Kd.R_drewN | apply Kd.R_drew)); exact HO370.out)) (by decide) hg); have n3_ := Aside0.mk (hb); have n4_ := Aside0.mk (ho); clear HO_10; clear HO359; clear HO364; clear HB; clear HO370; have HO_10 := n0_; have HO359 := n1_; have HO364 := n2_; have HB := n3_; have HO373 := n4_; clear n0_ n1_ n2_ n3_ n4_; clear ho hb hg hat) | ((with_reducible refine gate_builtin (b := .append) (xs := #[.tmp 66, .tmp 67]) rfl ?_); (try (refine gate_guard (by rfl) ?_; dsimp only)); at_builtin; refine Kd.R_append_rows (Kd.int .u8) (w0 := w) w.heap.size rfl (.tmp 66) (.tmp 67) 23 5 (.int .u8 0) 1 rfl Try.underlying23 info5 rfl (by decide) (by omega) v372 y371 l2 _ _ _ (fun k_ => some k_ ≠ (.slice Ao37 t345.length co37 : Value).ownBlock ∧ some k_ ≠ (.slice Ao40 y357.length co40 : Value).ownBlock) (fun _ => False) rfl rfl ?aO ?aR (fun _ _ h => h) (fun _ h => h.elim) ?aF ?aB ?aS ?aL ?_; (case aR => repeat (first | exact (Kd.C_below HR2.out HB.out) | (with_reducible refine Kd.C_alloc ?_ _) | (with_reducible refine Kd.C_drewN ?_ _) | (with_reducible refine Kd.C_drew ?_))); (case aB => exact (by repeat (first | (with_reducible first | exact HB.out | apply below_alloc | apply pw_below_drewN | apply below_drew1) | exact HB.out))); (case aF => exact (fun k_ hk => ⟨Kd.fresh' (Kd.R_lt (by (with_reducible repeat (first | apply Kd.R_alloc | apply Kd.R_drewN | apply Kd.R_drew)); exact HO_10.out)) k_ hk, Kd.fresh' (Kd.R_lt (by (with_reducible repeat (first | apply Kd.R_alloc | apply Kd.R_drewN | apply Kd.R_drew)); exact HO359.out)) k_ hk⟩)); (case aO => exact (by (with_reducible repeat (first | apply Kd.R_alloc | apply Kd.R_drewN | apply Kd.R_drew)); exact HO373.out)); (case aS => exact (below_size (by repeat (first | (with_reducible first | exact HB.out | apply below_alloc | apply pw_below_drewN | apply below_drew1) | exact HB.out)))); (case aL => have := LMc24.out; omega); intro v375 w46 ho hb hg hat; rw [← Ny374.out] at ho; have n0_ := Aside0.mk (Kd.R_after (ok := (fun k_ => some k_ ≠ (.slice Ao40 y357.length co40 : Value).ownBlock)) (by (with_reducible repeat (first | apply Kd.R_alloc | apply Kd.R_drewN | apply Kd.R_drew)); exact HO_10.out) hg hat); have n1_ := Aside0.mk (Kd.R_after (ok := (fun k_ => some k_ ≠ (.slice Ao37 t345.length co37 : Value).ownBlock)) (by (with_reducible repeat (first | apply Kd.R_alloc | apply Kd.R_drewN | apply Kd.R_drew)); exact HO359.out) hg hat); have n2_ := Aside0.mk (Kd.R_over' (by (with_reducible repeat (first | apply Kd.R_alloc | apply Kd.R_drewN | apply Kd.R_drew)); exact HO364.out) (Kd.R_typed (by (with_reducible repeat (first | apply Kd.R_alloc | apply Kd.R_drewN | apply Kd.R_drew)); exact HO373.out)) (by decide) hg); have n3_ := Aside0.mk (hb); have n4_ := Aside0.mk (ho); clear HO_10; clear HO359; clear HO364; clear HB; clear HO373; have HO_10 := n0_; have HO359 := n1_; have HO364 := n2_; have HB := n3_; have HO376 := n4_; clear n0_ n1_ n2_ n3_ n4_; clear ho hb hg hat; obtain ⟨Ao47, co47, eo47⟩ := Kd.R_slice HO376.out; subst eo47) | ((with_reducible refine gate_callee (f := 11) rfl ?_); refine goesL_ (some 69) rfl rfl Try.func11 (by kernel_rfl) rfl #[.slice Ao47 y374.length co47] rfl (by (try simp only [List.map_toArray, List.map_cons, List.map_nil]); first | done | rfl | (simp only [List.length_drop, List.length_take]; rfl)) ?_; (with_reducible refine (script_Get.calls kj11 _ _ y374 t377 t378 t379 _ ?side1 ?side2 A25.out).mono ?_); (case side1 => repeat (first | exact (Kd.R_reads' HO376.out).2.2 | (with_reducible refine Kd.C_alloc ?_ _) | (with_reducible refine Kd.C_drewN ?_ _) | (with_reducible refine Kd.C_drew ?_))); (case side2 => exact (Kd.R_reads' HO376.out).2.1); rintro e w48 ⟨v380, rfl, ho0, hb⟩; refine ⟨_, rfl, ?_⟩; have n0_ := Aside0.mk (Kd.R_below (by (with_reducible repeat (first | apply Kd.R_alloc | apply Kd.R_drewN | apply Kd.R_drew)); exact HO_10.out) hb); have n1_ := Aside0.mk (Kd.R_below (by (with_reducible repeat (first | apply Kd.R_alloc | apply Kd.R_drewN | apply Kd.R_drew)); exact HO359.out) hb); have n2_ := Aside0.mk (Kd.R_elder' (by (with_reducible repeat (first | apply Kd.R_alloc | apply Kd.R_drewN | apply Kd.R_drew)); exact HO364.out) (Kd.R_base ho0) hb); have n3_ := Aside0.mk (Kd.R_below (by (with_reducible repeat (first | apply Kd.R_alloc | apply Kd.R_drewN | apply Kd.R_drew)); exact HO376.out) hb); have n4_ := Aside0.mk (Kd.R_lower (Kd.R_new' ho0 (Kd.R_lt (by (with_reducible repeat (first | apply Kd.R_alloc | apply Kd.R_drewN | apply Kd.R_drew)); exact HO364.out))) (below_size (by repeat (first | (with_reducible first | exact HB.out | apply below_alloc | apply pw_below_drewN | apply below_drew1) | exact HB.out)))); have n5_ := Aside0.mk (below_step (by repeat (first | (with_reducible first | exact HB.out | apply below_alloc | apply pw_below_drewN | apply below_drew1) | exact HB.out)) hb); clear HO_10; clear HO359; clear HO364; clear HO376; clear HB; have HO_10 := n0_; have HO359 := n1_; have HO364 := n2_; have HO376 := n3_; have HO381 := n4_; have HB := n5_; clear n0_ n1_ n2_ n3_ n4_ n5_; (try clear hb); (try clear hb2); (try clear hk); (try clear hi); (try clear ho0); obtain ⟨Ao49, co49, eo49⟩ := Kd.R_slice HO364.out; subst eo49) | (go_at_call 17; (with_reducible refine (silhouetteref12_Same.calls kj11 _ _ t360 _ _ l0 true _ ?side1 ?side2 ?side3 ?side4 A27.out).mono ?_); (case side1 => repeat (first | exact (Kd.R_reads' HO364.out).2.2 | (with_reducible refine Kd.C_alloc ?_ _) | (with_reducible refine Kd.C_drewN ?_ _) | (with_reducible refine Kd.C_drew ?_))); (case side2 => exact (Kd.R_reads' HO364.out).2.1); (case side3 => repeat (first | exact (Kd.C_below HR0.out HB.out) | (with_reducible refine Kd.C_alloc ?_ _) | (with_reducible refine Kd.C_drewN ?_ _) | (with_reducible refine Kd.C_drew ?_))); (case side4 => exact HC0.out); rintro e w' ⟨rfl, ⟨nd, rfl⟩⟩; obtain ⟨Ao50, co50, eo50⟩ := Kd.R_slice HO381.out; subst eo50) | (go_at_call 17; (with_reducible refine (silhouetteref12_Same.calls kj11 _ _ t377 _ _ l0 true _ ?side1 ?side2 ?side3 ?side4 A29.out).mono ?_); (case side1 => repeat (first | exact (Kd.R_reads' HO381.out).2.2 | (with_reducible refine Kd.C_alloc ?_ _) | (with_reducible refine Kd.C_drewN ?_ _) | (with_reducible refine Kd.C_drew ?_))); (case side2 => exact (Kd.R_reads' HO381.out).2.1); (case side3 => repeat (first | exact (Kd.C_below HR0.out (by repeat (first | (with_reducible first | exact HB.out | apply below_alloc | apply pw_below_drewN | apply below_drew1) | exact HB.out))) | (with_reducible refine Kd.C_alloc ?_ _) | (with_reducible refine Kd.C_drewN ?_ _) | (with_reducible refine Kd.C_drew ?_))); (case side4 => exact HC0.out); rintro e w' ⟨rfl, ⟨nd, rfl⟩⟩))
                                      go_ret
                                      exact ⟨by first | rfl | (simp [errW_none, errW_some] <;> rfl) | (simp [*, errW_none, errW_some] <;> rfl), by repeat (first | (with_reducible first | exact HB.out | apply below_alloc | apply pw_below_drewN | apply below_drew1) | exact HB.out)⟩
                                    · rw [if_neg c33] at H
                                      have c33b0 : (t362 == 12) = false := beq_eq_false_iff_ne.mpr c33
                                      have c33b1 : (t362 != 12) = true := bne_iff_ne.mpr c33
                                      obtain rfl := Option.some.inj H
                                      exact absurd hr (by decide)
                                  · rw [if_neg c32] at H
                                    have c32b0 : (t378 == t361) = false := beq_eq_false_iff_ne.mpr c32
                                    have c32b1 : (t378 != t361) = true := bne_iff_ne.mpr c32
                                    obtain rfl := Option.some.inj H
                                    exact absurd hr (by decide)
                                · rw [if_neg c31] at H
                                  have c31b0 : (t361 == (t345.length : Int)) = false := beq_eq_false_iff_ne.mpr c31
                                  have c31b1 : (t361 != (t345.length : Int)) = true := bne_iff_ne.mpr c31
                                  obtain rfl := Option.some.inj H
                                  exact absurd hr (by decide)
                              · replace c30 := Bool.eq_false_iff.mpr c30
                                subst c30
                                have H1 : (some false) = some r := by rw [if_neg (show ¬ (false = true) by decide)] at H; exact H
                                clear H
                                have H := H1
                                clear H1
                                obtain rfl := Option.some.inj H
                                exact absurd hr (by decide)
                            · replace c28 := Bool.eq_false_iff.mpr c28
                              subst c28
                              have H1 : (some false) = some r := by rw [if_neg (show ¬ (false = true) by decide)] at H; exact H
                              clear H
                              have H := H1
                              clear H1
                              obtain rfl := Option.some.inj H
                              exact absurd hr (by decide)
                          · replace c26 := Bool.eq_false_iff.mpr c26
                            subst c26
                            have H1 : (some false) = some r := by rw [if_neg (show ¬ (false = true) by decide)] at H; exact H
                            clear H
                            have H := H1
                            clear H1
                            obtain rfl := Option.some.inj H
                            exact absurd hr (by decide)
                        · rw [if_neg c24] at H
                          exact absurd H (by simp)
                      · rw [if_neg c23] at H
                        exact absurd H (by simp)
                    · rw [if_neg c22] at H
                      exact absurd H (by simp)
                  · rw [if_neg c20] at H
                    exact absurd H (by simp)
                · rw [if_neg c19] at H
                  exact absurd H (by simp)
              · rw [if_neg c18] at H
                exact absurd H (by simp)

end Go.Proofs.Ytmifcdmkobammaa.Q
