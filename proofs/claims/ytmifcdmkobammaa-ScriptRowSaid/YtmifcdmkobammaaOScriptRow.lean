/- Layer 12: ScriptRow, walked where it answers true. -/
import Derived.Test.YtmifcdmkobammaaQx0
import Derived.Test.YtmifcdmkobammaaY2
import Derived.Test.YtmifcdmkobammaaYh
namespace Go.Proofs.Ytmifcdmkobammaa.Q
open Go.RowKit Go.Proofs.YtmifcdmkobammaaW.PrintWords Go.Proofs.YtmifcdmkobammaaW.PrintLast Go.Proofs.YtmifcdmkobammaaW.PrintMore
open Go.Proofs.Ytmifcdmkobammaa.ScriptWalk (script_Right.f script_Right.calls script_put.f script_put.calls script_Get.f script_Get.calls script_Get.mono)
attribute [local go_sem] max2_int min2_int max_two min_two max_three min_three max_four min_four   -- for this text's walks alone
set_option linter.unusedVariables false
set_option linter.unusedSimpArgs false

/-! ### silhouettelaw12_ScriptRow: function 6 -/
mutual
def silhouettelaw12_ScriptRow.j0 : Nat → List (S31) → List (S31) → Bool → Bool → Option (Bool)
  | 0, _, _, _, _ => none
  | k + 1, x0, x1, x5, x17 => if x17 = true then (some x5) else ((script_Put.f k x0).bind fun t291 => ((script_Put.f k x1).bind fun t294 => (if (t291.length : Int) = 0 then (if (x0.length : Int) > 0 then (silhouettelaw12_ScriptRow.j1 k x0 x1 x5 t291 t294 true) else (if (t294.length : Int) = 0 then (silhouettelaw12_ScriptRow.j1 k x0 x1 x5 t291 t294 (decide ((x1.length : Int) > 0))) else (silhouettelaw12_ScriptRow.j1 k x0 x1 x5 t291 t294 false))) else (if (t294.length : Int) = 0 then (silhouettelaw12_ScriptRow.j1 k x0 x1 x5 t291 t294 (decide ((x1.length : Int) > 0))) else (silhouettelaw12_ScriptRow.j1 k x0 x1 x5 t291 t294 false)))))
def silhouettelaw12_ScriptRow.j1 : Nat → List (S31) → List (S31) → Bool → List Int → List Int → Bool → Option (Bool)
  | 0, _, _, _, _, _, _ => none
  | k + 1, x0, x1, x5, x6, x7, x40 => if x40 = true then (some x5) else ((some (([] : List (S31)) : List (S31))).bind fun y297 => (if y297.length + x0.length < 2513169434916 then ((some (y297 ++ x0 : List (S31))).bind fun y300 => (if y300.length + x1.length < 2513169434916 then ((script_Put.f k (y300 ++ x1)).bind fun t306 => (if x5 = true then (if (strOfNums x6).size + (strOfNums x7).size ≤ 9223372036854775807 then (if (strOfNums t306).toList = ((strOfNums x6) ++ (strOfNums x7)).toList then ((silhouetteref12_Same.f k x0 x1).bind fun t309 => (some (((strOfNums x6).toList == (strOfNums x7).toList) == t309))) else (some false)) else (none)) else (some false))) else (none))) else (none)))
end
def silhouettelaw12_ScriptRow.f (k : Nat) (l0 : List (S31)) (l1 : List (S31)) : Option (Bool) := (silhouettelaw12_head.f).bind fun t290 => (if (l0.length : Int) > 400 then (silhouettelaw12_ScriptRow.j0 k l0 l1 t290 true) else (silhouettelaw12_ScriptRow.j0 k l0 l1 t290 (decide ((l1.length : Int) > 400))))
theorem silhouettelaw12_ScriptRow.mono_l : ∀ k, (∀ y0 y1 y2 y3, LeO (silhouettelaw12_ScriptRow.j0 k y0 y1 y2 y3) (silhouettelaw12_ScriptRow.j0 (k + 1) y0 y1 y2 y3)) ∧ (∀ y0 y1 y2 y3 y4 y5, LeO (silhouettelaw12_ScriptRow.j1 k y0 y1 y2 y3 y4 y5) (silhouettelaw12_ScriptRow.j1 (k + 1) y0 y1 y2 y3 y4 y5))
  | 0 => ⟨fun _ _ _ _ r h => by simp [silhouettelaw12_ScriptRow.j0] at h, fun _ _ _ _ _ _ r h => by simp [silhouettelaw12_ScriptRow.j1] at h⟩
  | k + 1 => by
    obtain ⟨ih0, ih1⟩ := silhouettelaw12_ScriptRow.mono_l k
    refine ⟨?_, ?_⟩
    · intro y0 y1 y2 y3
      unfold silhouettelaw12_ScriptRow.j0
      repeat' first
      | (with_reducible exact ih0 _ _ _ _)
      | (with_reducible exact ih1 _ _ _ _ _ _)
      | (with_reducible exact script_Put.mono _ _)
      | (with_reducible exact silhouetteref12_Same.mono _ _ _)
      | (with_reducible exact LeO.refl _)
      | (with_reducible exact LeO.none _)
      | (with_reducible refine LeO.ite ?_ ?_)
      | (with_reducible refine LeO.bind ?_ (fun _ => ?_))
      | exact ih0 _ _ _ _
      | exact ih1 _ _ _ _ _ _
      | exact script_Put.mono _ _
      | exact silhouetteref12_Same.mono _ _ _
      | exact LeO.none _
      | refine LeO.ite ?_ ?_
      | refine LeO.bind ?_ (fun _ => ?_)
    · intro y0 y1 y2 y3 y4 y5
      unfold silhouettelaw12_ScriptRow.j1
      repeat' first
      | (with_reducible exact ih0 _ _ _ _)
      | (with_reducible exact ih1 _ _ _ _ _ _)
      | (with_reducible exact script_Put.mono _ _)
      | (with_reducible exact silhouetteref12_Same.mono _ _ _)
      | (with_reducible exact LeO.refl _)
      | (with_reducible exact LeO.none _)
      | (with_reducible refine LeO.ite ?_ ?_)
      | (with_reducible refine LeO.bind ?_ (fun _ => ?_))
      | exact ih0 _ _ _ _
      | exact ih1 _ _ _ _ _ _
      | exact script_Put.mono _ _
      | exact silhouetteref12_Same.mono _ _ _
      | exact LeO.none _
      | refine LeO.ite ?_ ?_
      | refine LeO.bind ?_ (fun _ => ?_)
theorem silhouettelaw12_ScriptRow.mono : ∀ a0 a1 k, LeO (silhouettelaw12_ScriptRow.f k a0 a1) (silhouettelaw12_ScriptRow.f (k + 1) a0 a1) := by
  intro a0 a1 k
  obtain ⟨ih0, ih1⟩ := silhouettelaw12_ScriptRow.mono_l k
  unfold silhouettelaw12_ScriptRow.f
  repeat' first
      | (with_reducible exact ih0 _ _ _ _)
      | (with_reducible exact ih1 _ _ _ _ _ _)
      | (with_reducible exact script_Put.mono _ _)
      | (with_reducible exact silhouetteref12_Same.mono _ _ _)
      | (with_reducible exact LeO.refl _)
      | (with_reducible exact LeO.none _)
      | (with_reducible refine LeO.ite ?_ ?_)
      | (with_reducible refine LeO.bind ?_ (fun _ => ?_))
      | exact ih0 _ _ _ _
      | exact ih1 _ _ _ _ _ _
      | exact script_Put.mono _ _
      | exact silhouetteref12_Same.mono _ _ _
      | exact LeO.none _
      | refine LeO.ite ?_ ?_
      | refine LeO.bind ?_ (fun _ => ?_)
set_option maxHeartbeats 8000000 in
set_option maxRecDepth 100000 in
theorem silhouettelaw12_ScriptRow.calls (k : Nat) (A0 : Option Addr) (c0 : Nat) (l0 : List (S31)) (A1 : Option Addr) (c1 : Nat) (l1 : List (S31)) (r : Bool) (hr : r = true) (w : World) (hr0 : Kd.C k31 w A0 l0.length l0) (hc0 : l0.length ≤ c0) (hr1 : Kd.C k31 w A1 l1.length l1) (hc1 : l1.length ≤ c1) (h : silhouettelaw12_ScriptRow.f k l0 l1 = some r) :
    Calls Try.prog 6 #[.slice A0 l0.length c0, .slice A1 l1.length c1] w fun e w' => e = .returned (.bool r) ∧ Below w.heap.size w w' := by
  have HR0 := Aside0.mk hr0
  have HC0 := Aside0.mk hc0
  clear hr0 hc0
  have HR1 := Aside0.mk hr1
  have HC1 := Aside0.mk hc1
  clear hr1 hc1
  have HB := Aside0.mk (Below.refl w.heap.size w)
  have H : ((silhouettelaw12_head.f).bind fun t290 => (if (l0.length : Int) > 400 then (silhouettelaw12_ScriptRow.j0 k l0 l1 t290 true) else (silhouettelaw12_ScriptRow.j0 k l0 l1 t290 (decide ((l1.length : Int) > 400))))) = some r := h
  clear h
  replace H := Option.bind_eq_some_iff.mp H
  obtain ⟨t290, A30, H⟩ := H
  replace H : (if (l0.length : Int) > 400 then (silhouettelaw12_ScriptRow.j0 k l0 l1 t290 true) else (silhouettelaw12_ScriptRow.j0 k l0 l1 t290 (decide ((l1.length : Int) > 400)))) = some r := H
  have A3 := Aside0.mk A30
  clear A30
  have HC4 := Aside0.mk H
  clear H
  go_enter Try.func6, Try.ntmps6
  go_upto_region 2 with (first | (go_at_call 10; (with_reducible refine (silhouettelaw12_head.calls  t290 _ A3.out).mono ?_); rintro e w5 ⟨rfl, hb⟩; have n0_ := Aside0.mk (below_step (by repeat (first | (with_reducible first | exact HB.out | apply below_alloc | apply pw_below_drewN | apply below_drew1) | exact HB.out)) hb); clear HB; have HB := n0_; clear n0_; (try clear hb); (try clear hb2); (try clear hk); (try clear hi)))
  repeat (go_quiet (first | (go_at_call 10; (with_reducible refine (silhouettelaw12_head.calls  t290 _ A3.out).mono ?_); rintro e w5 ⟨rfl, hb⟩; have n0_ := Aside0.mk (below_step (by repeat (first | (with_reducible first | exact HB.out | apply below_alloc | apply pw_below_drewN | apply below_drew1) | exact HB.out)) hb); clear HB; have HB := n0_; clear n0_; (try clear hb); (try clear hb2); (try clear hk); (try clear hi))); go_upto_region 2 with (first | (go_at_call 10; (with_reducible refine (silhouettelaw12_head.calls  t290 _ A3.out).mono ?_); rintro e w5 ⟨rfl, hb⟩; have n0_ := Aside0.mk (below_step (by repeat (first | (with_reducible first | exact HB.out | apply below_alloc | apply pw_below_drewN | apply below_drew1) | exact HB.out)) hb); clear HB; have HB := n0_; clear n0_; (try clear hb); (try clear hb2); (try clear hk); (try clear hi))))
  (try simp only [Act.put, List.setIfInBounds_toArray, List.set_cons_zero, List.set_cons_succ])
  go_cut [17] (fun v17 wc => ∃ (kq : Nat) (x17_3 : Bool), v17 = .bool x17_3 ∧ Aside0 (silhouettelaw12_ScriptRow.j0 kq l0 l1 t290 x17_3 = some r) ∧ Aside0 (kq ≤ k) ∧ Aside0 (Below w.heap.size w wc))
  case first =>
    have H := HC4.out
    clear HC4
    by_cases c6 : (l0.length : Int) > 400
    · rw [if_pos c6] at H
      have c6b0 : decide (400 < (l0.length : Int)) = true := decide_eq_true c6
      have c6b1 : decide (400 < l0.length) = true := decide_eq_true (by omega)
      clear c6
      (first | rw [c6b0] | (simp only [i64_w, i32_w]; rw [c6b0]) | skip)
      have H' := Aside0.mk H
      clear H
      go_wp2
      repeat (go_quiet (fail); try go_wp2)
      go_meet
      case rel => exact ⟨_, (true), (by first | rfl | (simp; done) | (simp [*]; done)), H', ⟨by first | omega | exact Nat.le_refl _⟩, ⟨by repeat (first | (with_reducible first | exact HB.out | apply below_alloc | apply pw_below_drewN | apply below_drew1) | exact HB.out)⟩⟩
    · rw [if_neg c6] at H
      have c6b0 : decide (400 < (l0.length : Int)) = false := decide_eq_false c6
      have c6b1 : decide (400 < l0.length) = false := decide_eq_false (by omega)
      clear c6
      (first | rw [c6b0] | (simp only [i64_w, i32_w]; rw [c6b0]) | skip)
      have H' := Aside0.mk H
      clear H
      go_wp2
      repeat (go_quiet (fail); try go_wp2)
      go_meet
      case rel => exact ⟨_, (decide ((l1.length : Int) > 400)), (by first | rfl | (simp; done) | (simp [*]; done)), H', ⟨by first | omega | exact Nat.le_refl _⟩, ⟨by repeat (first | (with_reducible first | exact HB.out | apply below_alloc | apply pw_below_drewN | apply below_drew1) | exact HB.out)⟩⟩
  case rest =>
    clear HC4
    try clear c1
    try clear p2
    try clear c6
    try clear c6b0
    try clear c6b1
    obtain ⟨kq, x17_3, rfl, HA, HJ3, HB⟩ := hcut
    cases kq with
    | zero => exact absurd HA.out (by simp [silhouettelaw12_ScriptRow.j0])
    | succ kj3 =>
      have H := HA.out
      clear HA
      simp only [silhouettelaw12_ScriptRow.j0] at H
      by_cases c7 : x17_3 = true
      · subst c7
        have H1 : (some t290) = some r := by rw [if_pos rfl] at H; exact H
        clear H
        have H := H1
        clear H1
        obtain rfl := Option.some.inj H
        go_wp2
        repeat (go_quiet (fail); try go_wp2)
        go_ret
        exact ⟨by first | rfl | (simp [errW_none, errW_some] <;> rfl) | (simp [*, errW_none, errW_some] <;> rfl), by repeat (first | (with_reducible first | exact HB.out | apply below_alloc | apply pw_below_drewN | apply below_drew1) | exact HB.out)⟩
      · replace c7 := Bool.eq_false_iff.mpr c7
        subst c7
        have H1 : ((script_Put.f kj3 l0).bind fun t291 => ((script_Put.f kj3 l1).bind fun t294 => (if (t291.length : Int) = 0 then (if (l0.length : Int) > 0 then (silhouettelaw12_ScriptRow.j1 kj3 l0 l1 t290 t291 t294 true) else (if (t294.length : Int) = 0 then (silhouettelaw12_ScriptRow.j1 kj3 l0 l1 t290 t291 t294 (decide ((l1.length : Int) > 0))) else (silhouettelaw12_ScriptRow.j1 kj3 l0 l1 t290 t291 t294 false))) else (if (t294.length : Int) = 0 then (silhouettelaw12_ScriptRow.j1 kj3 l0 l1 t290 t291 t294 (decide ((l1.length : Int) > 0))) else (silhouettelaw12_ScriptRow.j1 kj3 l0 l1 t290 t291 t294 false))))) = some r := by rw [if_neg (show ¬ (false = true) by decide)] at H; exact H
        clear H
        have H := H1
        clear H1
        replace H := Option.bind_eq_some_iff.mp H
        obtain ⟨t291, A80, H⟩ := H
        replace H : ((script_Put.f kj3 l1).bind fun t294 => (if (t291.length : Int) = 0 then (if (l0.length : Int) > 0 then (silhouettelaw12_ScriptRow.j1 kj3 l0 l1 t290 t291 t294 true) else (if (t294.length : Int) = 0 then (silhouettelaw12_ScriptRow.j1 kj3 l0 l1 t290 t291 t294 (decide ((l1.length : Int) > 0))) else (silhouettelaw12_ScriptRow.j1 kj3 l0 l1 t290 t291 t294 false))) else (if (t294.length : Int) = 0 then (silhouettelaw12_ScriptRow.j1 kj3 l0 l1 t290 t291 t294 (decide ((l1.length : Int) > 0))) else (silhouettelaw12_ScriptRow.j1 kj3 l0 l1 t290 t291 t294 false)))) = some r := H
        have A8 := Aside0.mk A80
        clear A80
        replace H := Option.bind_eq_some_iff.mp H
        obtain ⟨t294, A90, H⟩ := H
        replace H : (if (t291.length : Int) = 0 then (if (l0.length : Int) > 0 then (silhouettelaw12_ScriptRow.j1 kj3 l0 l1 t290 t291 t294 true) else (if (t294.length : Int) = 0 then (silhouettelaw12_ScriptRow.j1 kj3 l0 l1 t290 t291 t294 (decide ((l1.length : Int) > 0))) else (silhouettelaw12_ScriptRow.j1 kj3 l0 l1 t290 t291 t294 false))) else (if (t294.length : Int) = 0 then (silhouettelaw12_ScriptRow.j1 kj3 l0 l1 t290 t291 t294 (decide ((l1.length : Int) > 0))) else (silhouettelaw12_ScriptRow.j1 kj3 l0 l1 t290 t291 t294 false))) = some r := H
        have A9 := Aside0.mk A90
        clear A90
        have HC10 := Aside0.mk H
        clear H
        go_upto_region 6 with (first | (go_at_call 15; (with_reducible refine (script_Put.calls kj3 _ _ l0 t291 _ ?side1 ?side2 A8.out).mono ?_); (case side1 => repeat (first | exact (Kd.C_below HR0.out HB.out) | (with_reducible refine Kd.C_alloc ?_ _) | (with_reducible refine Kd.C_drewN ?_ _) | (with_reducible refine Kd.C_drew ?_))); (case side2 => exact HC0.out); rintro e w11 ⟨v292, rfl, ho0, hb⟩; have n0_ := Aside0.mk (Kd.R_lower ho0 (below_size (by repeat (first | (with_reducible first | exact HB.out | apply below_alloc | apply pw_below_drewN | apply below_drew1) | exact HB.out)))); have n1_ := Aside0.mk (below_step (by repeat (first | (with_reducible first | exact HB.out | apply below_alloc | apply pw_below_drewN | apply below_drew1) | exact HB.out)) hb); clear HB; have HO293 := n0_; have HB := n1_; clear n0_ n1_; (try clear hb); (try clear hb2); (try clear hk); (try clear hi); (try clear ho0)) | (go_at_call 15; (with_reducible refine (script_Put.calls kj3 _ _ l1 t294 _ ?side1 ?side2 A9.out).mono ?_); (case side1 => repeat (first | exact (Kd.C_below HR1.out HB.out) | (with_reducible refine Kd.C_alloc ?_ _) | (with_reducible refine Kd.C_drewN ?_ _) | (with_reducible refine Kd.C_drew ?_))); (case side2 => exact HC1.out); rintro e w12 ⟨v295, rfl, ho0, hb⟩; have n0_ := Aside0.mk (Kd.R_elder' (by (with_reducible repeat (first | apply Kd.R_alloc | apply Kd.R_drewN | apply Kd.R_drew)); exact HO293.out) (Kd.R_base ho0) hb); have n1_ := Aside0.mk (Kd.R_lower (Kd.R_new' ho0 (Kd.R_lt (by (with_reducible repeat (first | apply Kd.R_alloc | apply Kd.R_drewN | apply Kd.R_drew)); exact HO293.out))) (below_size (by repeat (first | (with_reducible first | exact HB.out | apply below_alloc | apply pw_below_drewN | apply below_drew1) | exact HB.out)))); have n2_ := Aside0.mk (below_step (by repeat (first | (with_reducible first | exact HB.out | apply below_alloc | apply pw_below_drewN | apply below_drew1) | exact HB.out)) hb); clear HO293; clear HB; have HO293 := n0_; have HO296 := n1_; have HB := n2_; clear n0_ n1_ n2_; (try clear hb); (try clear hb2); (try clear hk); (try clear hi); (try clear ho0)))
        repeat (go_quiet (first | (go_at_call 15; (with_reducible refine (script_Put.calls kj3 _ _ l0 t291 _ ?side1 ?side2 A8.out).mono ?_); (case side1 => repeat (first | exact (Kd.C_below HR0.out HB.out) | (with_reducible refine Kd.C_alloc ?_ _) | (with_reducible refine Kd.C_drewN ?_ _) | (with_reducible refine Kd.C_drew ?_))); (case side2 => exact HC0.out); rintro e w11 ⟨v292, rfl, ho0, hb⟩; have n0_ := Aside0.mk (Kd.R_lower ho0 (below_size (by repeat (first | (with_reducible first | exact HB.out | apply below_alloc | apply pw_below_drewN | apply below_drew1) | exact HB.out)))); have n1_ := Aside0.mk (below_step (by repeat (first | (with_reducible first | exact HB.out | apply below_alloc | apply pw_below_drewN | apply below_drew1) | exact HB.out)) hb); clear HB; have HO293 := n0_; have HB := n1_; clear n0_ n1_; (try clear hb); (try clear hb2); (try clear hk); (try clear hi); (try clear ho0)) | (go_at_call 15; (with_reducible refine (script_Put.calls kj3 _ _ l1 t294 _ ?side1 ?side2 A9.out).mono ?_); (case side1 => repeat (first | exact (Kd.C_below HR1.out HB.out) | (with_reducible refine Kd.C_alloc ?_ _) | (with_reducible refine Kd.C_drewN ?_ _) | (with_reducible refine Kd.C_drew ?_))); (case side2 => exact HC1.out); rintro e w12 ⟨v295, rfl, ho0, hb⟩; have n0_ := Aside0.mk (Kd.R_elder' (by (with_reducible repeat (first | apply Kd.R_alloc | apply Kd.R_drewN | apply Kd.R_drew)); exact HO293.out) (Kd.R_base ho0) hb); have n1_ := Aside0.mk (Kd.R_lower (Kd.R_new' ho0 (Kd.R_lt (by (with_reducible repeat (first | apply Kd.R_alloc | apply Kd.R_drewN | apply Kd.R_drew)); exact HO293.out))) (below_size (by repeat (first | (with_reducible first | exact HB.out | apply below_alloc | apply pw_below_drewN | apply below_drew1) | exact HB.out)))); have n2_ := Aside0.mk (below_step (by repeat (first | (with_reducible first | exact HB.out | apply below_alloc | apply pw_below_drewN | apply below_drew1) | exact HB.out)) hb); clear HO293; clear HB; have HO293 := n0_; have HO296 := n1_; have HB := n2_; clear n0_ n1_ n2_; (try clear hb); (try clear hb2); (try clear hk); (try clear hi); (try clear ho0))); go_upto_region 6 with (first | (go_at_call 15; (with_reducible refine (script_Put.calls kj3 _ _ l0 t291 _ ?side1 ?side2 A8.out).mono ?_); (case side1 => repeat (first | exact (Kd.C_below HR0.out HB.out) | (with_reducible refine Kd.C_alloc ?_ _) | (with_reducible refine Kd.C_drewN ?_ _) | (with_reducible refine Kd.C_drew ?_))); (case side2 => exact HC0.out); rintro e w11 ⟨v292, rfl, ho0, hb⟩; have n0_ := Aside0.mk (Kd.R_lower ho0 (below_size (by repeat (first | (with_reducible first | exact HB.out | apply below_alloc | apply pw_below_drewN | apply below_drew1) | exact HB.out)))); have n1_ := Aside0.mk (below_step (by repeat (first | (with_reducible first | exact HB.out | apply below_alloc | apply pw_below_drewN | apply below_drew1) | exact HB.out)) hb); clear HB; have HO293 := n0_; have HB := n1_; clear n0_ n1_; (try clear hb); (try clear hb2); (try clear hk); (try clear hi); (try clear ho0)) | (go_at_call 15; (with_reducible refine (script_Put.calls kj3 _ _ l1 t294 _ ?side1 ?side2 A9.out).mono ?_); (case side1 => repeat (first | exact (Kd.C_below HR1.out HB.out) | (with_reducible refine Kd.C_alloc ?_ _) | (with_reducible refine Kd.C_drewN ?_ _) | (with_reducible refine Kd.C_drew ?_))); (case side2 => exact HC1.out); rintro e w12 ⟨v295, rfl, ho0, hb⟩; have n0_ := Aside0.mk (Kd.R_elder' (by (with_reducible repeat (first | apply Kd.R_alloc | apply Kd.R_drewN | apply Kd.R_drew)); exact HO293.out) (Kd.R_base ho0) hb); have n1_ := Aside0.mk (Kd.R_lower (Kd.R_new' ho0 (Kd.R_lt (by (with_reducible repeat (first | apply Kd.R_alloc | apply Kd.R_drewN | apply Kd.R_drew)); exact HO293.out))) (below_size (by repeat (first | (with_reducible first | exact HB.out | apply below_alloc | apply pw_below_drewN | apply below_drew1) | exact HB.out)))); have n2_ := Aside0.mk (below_step (by repeat (first | (with_reducible first | exact HB.out | apply below_alloc | apply pw_below_drewN | apply below_drew1) | exact HB.out)) hb); clear HO293; clear HB; have HO293 := n0_; have HO296 := n1_; have HB := n2_; clear n0_ n1_ n2_; (try clear hb); (try clear hb2); (try clear hk); (try clear hi); (try clear ho0))))
        (try simp only [Act.put, List.setIfInBounds_toArray, List.set_cons_zero, List.set_cons_succ])
        go_cut [40] (fun v40 wc => ∃ (kq : Nat) (x40_9 : Bool), v40 = .bool x40_9 ∧ Aside0 (silhouettelaw12_ScriptRow.j1 kq l0 l1 t290 t291 t294 x40_9 = some r) ∧ Aside0 (kq ≤ kj3) ∧ Aside0 (Kd.R (Kd.int .u8) 5 wc w.heap.size (fun k_ => some k_ ≠ (v295 : Value).ownBlock) v292 t291) ∧ Aside0 (Kd.R (Kd.int .u8) 5 wc w.heap.size (fun k_ => some k_ ≠ (v292 : Value).ownBlock) v295 t294) ∧ Aside0 (Below w.heap.size w wc))
        case first =>
          have H := HC10.out
          clear HC10
          by_cases c13 : (t291.length : Int) = 0
          · rw [if_pos c13] at H
            have c13b0 : ((t291.length : Int) == 0) = true := beq_iff_eq.mpr c13
            have c13b1 : ((t291.length : Int) != 0) = false := bne_eq_false_iff_eq.mpr c13
            clear c13
            (first | rw [c13b0] | (simp only [i64_w, i32_w]; rw [c13b0]) | skip)
            by_cases c14 : (l0.length : Int) > 0
            · rw [if_pos c14] at H
              have c14b0 : decide (0 < (l0.length : Int)) = true := decide_eq_true c14
              have c14b1 : decide (0 < l0.length) = true := decide_eq_true (by omega)
              clear c14
              have H' := Aside0.mk H
              clear H
              obtain ⟨Ao15, co15, eo15⟩ := Kd.R_slice HO293.out
              subst eo15
              go_wp2
              repeat (go_quiet (fail); try go_wp2)
              go_meet
              case rel => exact ⟨_, (true), (by first | rfl | (simp; done) | (simp [*]; done)), H', ⟨by have := HJ3.out; first | omega | exact Nat.le_refl _⟩, ⟨by (with_reducible repeat (first | apply Kd.R_alloc | apply Kd.R_drewN | apply Kd.R_drew)); exact Kd.R_mono HO293.out (fun _ hk => hk.2)⟩, ⟨by (with_reducible repeat (first | apply Kd.R_alloc | apply Kd.R_drewN | apply Kd.R_drew)); exact Kd.R_mono HO296.out (fun _ hk => hk.2)⟩, ⟨by repeat (first | (with_reducible first | exact HB.out | apply below_alloc | apply pw_below_drewN | apply below_drew1) | exact HB.out)⟩⟩
            · rw [if_neg c14] at H
              have c14b0 : decide (0 < (l0.length : Int)) = false := decide_eq_false c14
              have c14b1 : decide (0 < l0.length) = false := decide_eq_false (by omega)
              clear c14
              by_cases c16 : (t294.length : Int) = 0
              · rw [if_pos c16] at H
                have c16b0 : ((t294.length : Int) == 0) = true := beq_iff_eq.mpr c16
                have c16b1 : ((t294.length : Int) != 0) = false := bne_eq_false_iff_eq.mpr c16
                clear c16
                have H' := Aside0.mk H
                clear H
                obtain ⟨Ao17, co17, eo17⟩ := Kd.R_slice HO293.out
                subst eo17
                obtain ⟨Ao18, co18, eo18⟩ := Kd.R_slice HO296.out
                subst eo18
                go_wp2
                repeat (go_quiet (fail); try go_wp2)
                go_meet
                case rel => exact ⟨_, (decide ((l1.length : Int) > 0)), (by first | rfl | (simp; done) | (simp [*]; done)), H', ⟨by have := HJ3.out; first | omega | exact Nat.le_refl _⟩, ⟨by (with_reducible repeat (first | apply Kd.R_alloc | apply Kd.R_drewN | apply Kd.R_drew)); exact Kd.R_mono HO293.out (fun _ hk => hk.2)⟩, ⟨by (with_reducible repeat (first | apply Kd.R_alloc | apply Kd.R_drewN | apply Kd.R_drew)); exact Kd.R_mono HO296.out (fun _ hk => hk.2)⟩, ⟨by repeat (first | (with_reducible first | exact HB.out | apply below_alloc | apply pw_below_drewN | apply below_drew1) | exact HB.out)⟩⟩
              · rw [if_neg c16] at H
                have c16b0 : ((t294.length : Int) == 0) = false := beq_eq_false_iff_ne.mpr c16
                have c16b1 : ((t294.length : Int) != 0) = true := bne_iff_ne.mpr c16
                have c16b2 : ¬ (t294 = []) := fun h_ => c16 (by rw [h_]; rfl)
                have H' := Aside0.mk H
                clear H
                obtain ⟨Ao19, co19, eo19⟩ := Kd.R_slice HO293.out
                subst eo19
                obtain ⟨Ao20, co20, eo20⟩ := Kd.R_slice HO296.out
                subst eo20
                go_wp2
                repeat (go_quiet (fail); try go_wp2)
                go_meet
                case rel => exact ⟨_, (false), (by first | rfl | (simp; done) | (simp [*]; done)), H', ⟨by have := HJ3.out; first | omega | exact Nat.le_refl _⟩, ⟨by (with_reducible repeat (first | apply Kd.R_alloc | apply Kd.R_drewN | apply Kd.R_drew)); exact Kd.R_mono HO293.out (fun _ hk => hk.2)⟩, ⟨by (with_reducible repeat (first | apply Kd.R_alloc | apply Kd.R_drewN | apply Kd.R_drew)); exact Kd.R_mono HO296.out (fun _ hk => hk.2)⟩, ⟨by repeat (first | (with_reducible first | exact HB.out | apply below_alloc | apply pw_below_drewN | apply below_drew1) | exact HB.out)⟩⟩
          · rw [if_neg c13] at H
            have c13b0 : ((t291.length : Int) == 0) = false := beq_eq_false_iff_ne.mpr c13
            have c13b1 : ((t291.length : Int) != 0) = true := bne_iff_ne.mpr c13
            have c13b2 : ¬ (t291 = []) := fun h_ => c13 (by rw [h_]; rfl)
            (first | rw [c13b0] | (simp only [i64_w, i32_w]; rw [c13b0]) | skip)
            by_cases c21 : (t294.length : Int) = 0
            · rw [if_pos c21] at H
              have c21b0 : ((t294.length : Int) == 0) = true := beq_iff_eq.mpr c21
              have c21b1 : ((t294.length : Int) != 0) = false := bne_eq_false_iff_eq.mpr c21
              clear c21
              have H' := Aside0.mk H
              clear H
              obtain ⟨Ao22, co22, eo22⟩ := Kd.R_slice HO293.out
              subst eo22
              obtain ⟨Ao23, co23, eo23⟩ := Kd.R_slice HO296.out
              subst eo23
              go_wp2
              repeat (go_quiet (fail); try go_wp2)
              go_meet
              case rel => exact ⟨_, (decide ((l1.length : Int) > 0)), (by first | rfl | (simp; done) | (simp [*]; done)), H', ⟨by have := HJ3.out; first | omega | exact Nat.le_refl _⟩, ⟨by (with_reducible repeat (first | apply Kd.R_alloc | apply Kd.R_drewN | apply Kd.R_drew)); exact Kd.R_mono HO293.out (fun _ hk => hk.2)⟩, ⟨by (with_reducible repeat (first | apply Kd.R_alloc | apply Kd.R_drewN | apply Kd.R_drew)); exact Kd.R_mono HO296.out (fun _ hk => hk.2)⟩, ⟨by repeat (first | (with_reducible first | exact HB.out | apply below_alloc | apply pw_below_drewN | apply below_drew1) | exact HB.out)⟩⟩
            · rw [if_neg c21] at H
              have c21b0 : ((t294.length : Int) == 0) = false := beq_eq_false_iff_ne.mpr c21
              have c21b1 : ((t294.length : Int) != 0) = true := bne_iff_ne.mpr c21
              have c21b2 : ¬ (t294 = []) := fun h_ => c21 (by rw [h_]; rfl)
              have H' := Aside0.mk H
              clear H
              obtain ⟨Ao24, co24, eo24⟩ := Kd.R_slice HO293.out
              subst eo24
              obtain ⟨Ao25, co25, eo25⟩ := Kd.R_slice HO296.out
              subst eo25
              go_wp2
              repeat (go_quiet (fail); try go_wp2)
              go_meet
              case rel => exact ⟨_, (false), (by first | rfl | (simp; done) | (simp [*]; done)), H', ⟨by have := HJ3.out; first | omega | exact Nat.le_refl _⟩, ⟨by (with_reducible repeat (first | apply Kd.R_alloc | apply Kd.R_drewN | apply Kd.R_drew)); exact Kd.R_mono HO293.out (fun _ hk => hk.2)⟩, ⟨by (with_reducible repeat (first | apply Kd.R_alloc | apply Kd.R_drewN | apply Kd.R_drew)); exact Kd.R_mono HO296.out (fun _ hk => hk.2)⟩, ⟨by repeat (first | (with_reducible first | exact HB.out | apply below_alloc | apply pw_below_drewN | apply below_drew1) | exact HB.out)⟩⟩
        case rest =>
          clear HC10
          try clear c1
          try clear c2
          try clear p2
          try clear c6
          try clear c6b0
          try clear c6b1
          try clear c7
          try clear c13
          try clear c13b0
          try clear c13b1
          try clear c13b2
          try clear c14
          try clear c14b0
          try clear c14b1
          try clear c16
          try clear c16b0
          try clear c16b1
          try clear c16b2
          try clear c21
          try clear c21b0
          try clear c21b1
          try clear c21b2
          try clear p2
          obtain ⟨kq, x40_9, rfl, HA, HJ9, HO_6, HO_7, HB⟩ := hcut
          cases kq with
          | zero => exact absurd HA.out (by simp [silhouettelaw12_ScriptRow.j1])
          | succ kj9 =>
            have H := HA.out
            clear HA
            simp only [silhouettelaw12_ScriptRow.j1] at H
            by_cases c26 : x40_9 = true
            · subst c26
              have H1 : (some t290) = some r := by rw [if_pos rfl] at H; exact H
              clear H
              have H := H1
              clear H1
              obtain rfl := Option.some.inj H
              go_wp2
              repeat (go_quiet (fail); try go_wp2)
              go_ret
              exact ⟨by first | rfl | (simp [errW_none, errW_some] <;> rfl) | (simp [*, errW_none, errW_some] <;> rfl), by repeat (first | (with_reducible first | exact HB.out | apply below_alloc | apply pw_below_drewN | apply below_drew1) | exact HB.out)⟩
            · replace c26 := Bool.eq_false_iff.mpr c26
              subst c26
              have H1 : ((some (([] : List (S31)) : List (S31))).bind fun y297 => (if y297.length + l0.length < 2513169434916 then ((some (y297 ++ l0 : List (S31))).bind fun y300 => (if y300.length + l1.length < 2513169434916 then ((script_Put.f kj9 (y300 ++ l1)).bind fun t306 => (if t290 = true then (if (strOfNums t291).size + (strOfNums t294).size ≤ 9223372036854775807 then (if (strOfNums t306).toList = ((strOfNums t291) ++ (strOfNums t294)).toList then ((silhouetteref12_Same.f kj9 l0 l1).bind fun t309 => (some (((strOfNums t291).toList == (strOfNums t294).toList) == t309))) else (some false)) else (none)) else (some false))) else (none))) else (none))) = some r := by rw [if_neg (show ¬ (false = true) by decide)] at H; exact H
              clear H
              have H := H1
              clear H1
              obtain ⟨y297, hy297⟩ : ∃ y_ : List (S31), y_ = (([] : List (S31))) := ⟨_, rfl⟩
              replace H : (if y297.length + l0.length < 2513169434916 then ((some (y297 ++ l0 : List (S31))).bind fun y300 => (if y300.length + l1.length < 2513169434916 then ((script_Put.f kj9 (y300 ++ l1)).bind fun t306 => (if t290 = true then (if (strOfNums t291).size + (strOfNums t294).size ≤ 9223372036854775807 then (if (strOfNums t306).toList = ((strOfNums t291) ++ (strOfNums t294)).toList then ((silhouetteref12_Same.f kj9 l0 l1).bind fun t309 => (some (((strOfNums t291).toList == (strOfNums t294).toList) == t309))) else (some false)) else (none)) else (some false))) else (none))) else (none)) = some r := by first | (rw [hy297]; with_reducible exact H) | (have H2_ := (Option.bind_some _ _).symm.trans H; rw [hy297]; with_reducible exact H2_) | (have H2_ := (Option.bind_some _ _).symm.trans H; with_reducible exact H2_) | with_reducible exact H | (rw [hy297]; exact H) | exact H
              have Ny297 := Aside0.mk hy297
              clear hy297
              by_cases c27 : y297.length + l0.length < 2513169434916
              · rw [if_pos c27] at H
                have LMc27 := Aside0.mk c27
                clear c27
                obtain ⟨y300, hy300⟩ : ∃ y_ : List (S31), y_ = (y297 ++ l0) := ⟨_, rfl⟩
                replace H : (if y300.length + l1.length < 2513169434916 then ((script_Put.f kj9 (y300 ++ l1)).bind fun t306 => (if t290 = true then (if (strOfNums t291).size + (strOfNums t294).size ≤ 9223372036854775807 then (if (strOfNums t306).toList = ((strOfNums t291) ++ (strOfNums t294)).toList then ((silhouetteref12_Same.f kj9 l0 l1).bind fun t309 => (some (((strOfNums t291).toList == (strOfNums t294).toList) == t309))) else (some false)) else (none)) else (some false))) else (none)) = some r := by first | (rw [hy300]; with_reducible exact H) | (have H2_ := (Option.bind_some _ _).symm.trans H; rw [hy300]; with_reducible exact H2_) | (have H2_ := (Option.bind_some _ _).symm.trans H; with_reducible exact H2_) | with_reducible exact H | (rw [hy300]; exact H) | exact H
                have Ny300 := Aside0.mk hy300
                clear hy300
                by_cases c28 : y300.length + l1.length < 2513169434916
                · rw [if_pos c28] at H
                  have LMc28 := Aside0.mk c28
                  clear c28
                  obtain ⟨y303, hy303⟩ : ∃ y_ : List (S31), y_ = (y300 ++ l1) := ⟨_, rfl⟩
                  replace H : ((script_Put.f kj9 y303).bind fun t306 => (if t290 = true then (if (strOfNums t291).size + (strOfNums t294).size ≤ 9223372036854775807 then (if (strOfNums t306).toList = ((strOfNums t291) ++ (strOfNums t294)).toList then ((silhouetteref12_Same.f kj9 l0 l1).bind fun t309 => (some (((strOfNums t291).toList == (strOfNums t294).toList) == t309))) else (some false)) else (none)) else (some false))) = some r := by first | (rw [hy303]; with_reducible exact H) | (have H2_ := (Option.bind_some _ _).symm.trans H; rw [hy303]; with_reducible exact H2_) | (have H2_ := (Option.bind_some _ _).symm.trans H; with_reducible exact H2_) | with_reducible exact H | (rw [hy303]; exact H) | exact H
                  have Ny303 := Aside0.mk hy303
                  clear hy303
                  replace H := Option.bind_eq_some_iff.mp H
                  obtain ⟨t306, A290, H⟩ := H
                  replace H : (if t290 = true then (if (strOfNums t291).size + (strOfNums t294).size ≤ 9223372036854775807 then (if (strOfNums t306).toList = ((strOfNums t291) ++ (strOfNums t294)).toList then ((silhouetteref12_Same.f kj9 l0 l1).bind fun t309 => (some (((strOfNums t291).toList == (strOfNums t294).toList) == t309))) else (some false)) else (none)) else (some false)) = some r := H
                  have A29 := Aside0.mk A290
                  clear A290
                  by_cases c30 : t290 = true
                  · subst c30
                    have H1 : (if (strOfNums t291).size + (strOfNums t294).size ≤ 9223372036854775807 then (if (strOfNums t306).toList = ((strOfNums t291) ++ (strOfNums t294)).toList then ((silhouetteref12_Same.f kj9 l0 l1).bind fun t309 => (some (((strOfNums t291).toList == (strOfNums t294).toList) == t309))) else (some false)) else (none)) = some r := by rw [if_pos rfl] at H; exact H
                    clear H
                    have H := H1
                    clear H1
                    by_cases c31 : (strOfNums t291).size + (strOfNums t294).size ≤ 9223372036854775807
                    · rw [if_pos c31] at H
                      have c31b0 := eq_true c31
                      have c31b1 : decide ((strOfNums t291).size + (strOfNums t294).size ≤ 9223372036854775807) = true := decide_eq_true c31
                      try have c31b2 : (9223372036854775807 < (strOfNums t291).size + (strOfNums t294).size) = False := eq_false (Nat.not_lt.2 c31)
                      by_cases c32 : (strOfNums t306).toList = ((strOfNums t291) ++ (strOfNums t294)).toList
                      · rw [if_pos c32] at H
                        have c32b0 : ((strOfNums t306).toList == ((strOfNums t291) ++ (strOfNums t294)).toList) = true := beq_iff_eq.mpr c32
                        have c32b1 : ((strOfNums t306).toList != ((strOfNums t291) ++ (strOfNums t294)).toList) = false := bne_eq_false_iff_eq.mpr c32
                        clear c32
                        replace H := Option.bind_eq_some_iff.mp H
                        obtain ⟨t309, A330, H⟩ := H
                        replace H : (some (((strOfNums t291).toList == (strOfNums t294).toList) == t309)) = some r := H
                        have A33 := Aside0.mk A330
                        clear A330
                        obtain rfl := Option.some.inj H
                        go_wp2_with (first | ((with_reducible refine gate_dst (N := 42) rfl ?_); (try (refine gate_guard (by rfl) ?_; dsimp only)); refine Kd.R_lit k31 _ 31 ?hg (N := 42) ?hd (xs := ([] : List (S31))) (inner := []) (ok := fun _ => True) (okp := fun _ => True) ?hr ?hp (fun _ hk => hk) trivial (Below.refl _ _) (Nat.le_refl _) (by simp) ?_; (case hd => rfl); (case hg => rfl); (case hr => first | (go_simp; done) | (go_simp; rfl)); (case hp => exact (Reps.none _ _)); intro v298 w34 ho35 hb hg_ hnew_; clear hg_ hnew_; (first | rw [← Ny297.out] at ho35 | (simp only [Int.reduceToNat] at ho35; rw [← Ny297.out] at ho35)); have n0_ := Aside0.mk (Kd.R_below (by (with_reducible repeat (first | apply Kd.R_alloc | apply Kd.R_drewN | apply Kd.R_drew)); exact HO_6.out) hb); have n1_ := Aside0.mk (Kd.R_below (by (with_reducible repeat (first | apply Kd.R_alloc | apply Kd.R_drewN | apply Kd.R_drew)); exact HO_7.out) hb); have n2_ := Aside0.mk (Kd.R_lower ho35 (below_size (by repeat (first | (with_reducible first | exact HB.out | apply below_alloc | apply pw_below_drewN | apply below_drew1) | exact HB.out)))); have n3_ := Aside0.mk (below_step (by repeat (first | (with_reducible first | exact HB.out | apply below_alloc | apply pw_below_drewN | apply below_drew1) | exact HB.out)) hb); clear HO_6; clear HO_7; clear HB; have HO_6 := n0_; have HO_7 := n1_; have HO299 := n2_; have HB := n3_; clear n0_ n1_ n2_ n3_; clear hb ho35) | ((with_reducible refine gate_builtin (b := .append) (xs := #[.tmp 42, .tmp 43]) rfl ?_); (try (refine gate_guard (by rfl) ?_; dsimp only)); at_builtin; refine Kd.R_append_rows k31 (w0 := w) w.heap.size rfl (.tmp 42) (.tmp 43) 22 31 (.agg #[(.int .i64 0), (.bool false), (.int .u64 0), (.int .u64 0), (.int .i64 0), (.int .i64 0), (.int .i64 0)]) 56 rfl Try.underlying22 info31 rfl (by decide) (by omega) v298 y297 l0 _ _ _ (fun _ => True) (fun _ => False) rfl rfl ?aO ?aR (fun _ _ h => h) (fun _ h => h.elim) ?aF ?aB ?aS ?aL ?_; (case aR => repeat (first | exact (Kd.C_below HR0.out HB.out) | (with_reducible refine Kd.C_alloc ?_ _) | (with_reducible refine Kd.C_drewN ?_ _) | (with_reducible refine Kd.C_drew ?_))); (case aB => exact (by repeat (first | (with_reducible first | exact HB.out | apply below_alloc | apply pw_below_drewN | apply below_drew1) | exact HB.out))); (case aF => exact (fun _ _ => trivial)); (case aO => exact (by (with_reducible repeat (first | apply Kd.R_alloc | apply Kd.R_drewN | apply Kd.R_drew)); exact HO299.out)); (case aS => exact (below_size (by repeat (first | (with_reducible first | exact HB.out | apply below_alloc | apply pw_below_drewN | apply below_drew1) | exact HB.out)))); (case aL => have := LMc27.out; omega); intro v301 w36 ho hb hg hat; rw [← Ny300.out] at ho; have n0_ := Aside0.mk (Kd.R_over' (by (with_reducible repeat (first | apply Kd.R_alloc | apply Kd.R_drewN | apply Kd.R_drew)); exact HO_6.out) (Kd.R_typed (by (with_reducible repeat (first | apply Kd.R_alloc | apply Kd.R_drewN | apply Kd.R_drew)); exact HO299.out)) (by decide) hg); have n1_ := Aside0.mk (Kd.R_over' (by (with_reducible repeat (first | apply Kd.R_alloc | apply Kd.R_drewN | apply Kd.R_drew)); exact HO_7.out) (Kd.R_typed (by (with_reducible repeat (first | apply Kd.R_alloc | apply Kd.R_drewN | apply Kd.R_drew)); exact HO299.out)) (by decide) hg); have n2_ := Aside0.mk (hb); have n3_ := Aside0.mk (ho); clear HO_6; clear HO_7; clear HB; clear HO299; have HO_6 := n0_; have HO_7 := n1_; have HB := n2_; have HO302 := n3_; clear n0_ n1_ n2_ n3_; clear ho hb hg hat) | ((with_reducible refine gate_builtin (b := .append) (xs := #[.tmp 44, .tmp 45]) rfl ?_); (try (refine gate_guard (by rfl) ?_; dsimp only)); at_builtin; refine Kd.R_append_rows k31 (w0 := w) w.heap.size rfl (.tmp 44) (.tmp 45) 22 31 (.agg #[(.int .i64 0), (.bool false), (.int .u64 0), (.int .u64 0), (.int .i64 0), (.int .i64 0), (.int .i64 0)]) 56 rfl Try.underlying22 info31 rfl (by decide) (by omega) v301 y300 l1 _ _ _ (fun _ => True) (fun _ => False) rfl rfl ?aO ?aR (fun _ _ h => h) (fun _ h => h.elim) ?aF ?aB ?aS ?aL ?_; (case aR => repeat (first | exact (Kd.C_below HR1.out HB.out) | (with_reducible refine Kd.C_alloc ?_ _) | (with_reducible refine Kd.C_drewN ?_ _) | (with_reducible refine Kd.C_drew ?_))); (case aB => exact (by repeat (first | (with_reducible first | exact HB.out | apply below_alloc | apply pw_below_drewN | apply below_drew1) | exact HB.out))); (case aF => exact (fun _ _ => trivial)); (case aO => exact (by (with_reducible repeat (first | apply Kd.R_alloc | apply Kd.R_drewN | apply Kd.R_drew)); exact HO302.out)); (case aS => exact (below_size (by repeat (first | (with_reducible first | exact HB.out | apply below_alloc | apply pw_below_drewN | apply below_drew1) | exact HB.out)))); (case aL => have := LMc28.out; omega); intro v304 w37 ho hb hg hat; rw [← Ny303.out] at ho; have n0_ := Aside0.mk (Kd.R_over' (by (with_reducible repeat (first | apply Kd.R_alloc | apply Kd.R_drewN | apply Kd.R_drew)); exact HO_6.out) (Kd.R_typed (by (with_reducible repeat (first | apply Kd.R_alloc | apply Kd.R_drewN | apply Kd.R_drew)); exact HO302.out)) (by decide) hg); have n1_ := Aside0.mk (Kd.R_over' (by (with_reducible repeat (first | apply Kd.R_alloc | apply Kd.R_drewN | apply Kd.R_drew)); exact HO_7.out) (Kd.R_typed (by (with_reducible repeat (first | apply Kd.R_alloc | apply Kd.R_drewN | apply Kd.R_drew)); exact HO302.out)) (by decide) hg); have n2_ := Aside0.mk (hb); have n3_ := Aside0.mk (ho); clear HO_6; clear HO_7; clear HB; clear HO302; have HO_6 := n0_; have HO_7 := n1_; have HB := n2_; have HO305 := n3_; clear n0_ n1_ n2_ n3_; clear ho hb hg hat; obtain ⟨Ao38, co38, eo38⟩ := Kd.R_slice HO305.out; subst eo38) | (go_at_call 15; (with_reducible refine (script_Put.calls kj9 _ _ y303 t306 _ ?side1 ?side2 A29.out).mono ?_); (case side1 => repeat (first | exact (Kd.R_reads' HO305.out).2.2 | (with_reducible refine Kd.C_alloc ?_ _) | (with_reducible refine Kd.C_drewN ?_ _) | (with_reducible refine Kd.C_drew ?_))); (case side2 => exact (Kd.R_reads' HO305.out).2.1); rintro e w39 ⟨v307, rfl, ho0, hb⟩; have n0_ := Aside0.mk (Kd.R_elder' (by (with_reducible repeat (first | apply Kd.R_alloc | apply Kd.R_drewN | apply Kd.R_drew)); exact HO_6.out) (Kd.R_base ho0) hb); have n1_ := Aside0.mk (Kd.R_elder' (by (with_reducible repeat (first | apply Kd.R_alloc | apply Kd.R_drewN | apply Kd.R_drew)); exact HO_7.out) (Kd.R_base ho0) hb); have n2_ := Aside0.mk (Kd.R_below (by (with_reducible repeat (first | apply Kd.R_alloc | apply Kd.R_drewN | apply Kd.R_drew)); exact HO305.out) hb); have n3_ := Aside0.mk (Kd.R_lower (Kd.R_new' (Kd.R_new' ho0 (Kd.R_lt (by (with_reducible repeat (first | apply Kd.R_alloc | apply Kd.R_drewN | apply Kd.R_drew)); exact HO_6.out))) (Kd.R_lt (by (with_reducible repeat (first | apply Kd.R_alloc | apply Kd.R_drewN | apply Kd.R_drew)); exact HO_7.out))) (below_size (by repeat (first | (with_reducible first | exact HB.out | apply below_alloc | apply pw_below_drewN | apply below_drew1) | exact HB.out)))); have n4_ := Aside0.mk (below_step (by repeat (first | (with_reducible first | exact HB.out | apply below_alloc | apply pw_below_drewN | apply below_drew1) | exact HB.out)) hb); clear HO_6; clear HO_7; clear HO305; clear HB; have HO_6 := n0_; have HO_7 := n1_; have HO305 := n2_; have HO308 := n3_; have HB := n4_; clear n0_ n1_ n2_ n3_ n4_; (try clear hb); (try clear hb2); (try clear hk); (try clear hi); (try clear ho0); have hcv40 := own_string (P := Try.prog) Try.underlying23 Try.underlying5 Try.underlying9 (Kd.own_of_R HO308.out); have hcv41 := own_string (P := Try.prog) Try.underlying23 Try.underlying5 Try.underlying9 (Kd.own_of_R HO_6.out); have hcv42 := own_string (P := Try.prog) Try.underlying23 Try.underlying5 Try.underlying9 (Kd.own_of_R HO_7.out); have hcv43 := own_string (P := Try.prog) Try.underlying23 Try.underlying5 Try.underlying9 (Kd.own_of_R HO_6.out); have hcv44 := own_string (P := Try.prog) Try.underlying23 Try.underlying5 Try.underlying9 (Kd.own_of_R HO_7.out)) | (go_at_call 17; (with_reducible refine (silhouetteref12_Same.calls kj9 _ _ l0 _ _ l1 t309 _ ?side1 ?side2 ?side3 ?side4 A33.out).mono ?_); (case side1 => repeat (first | exact (Kd.C_below HR0.out HB.out) | (with_reducible refine Kd.C_alloc ?_ _) | (with_reducible refine Kd.C_drewN ?_ _) | (with_reducible refine Kd.C_drew ?_))); (case side2 => exact HC0.out); (case side3 => repeat (first | exact (Kd.C_below HR1.out HB.out) | (with_reducible refine Kd.C_alloc ?_ _) | (with_reducible refine Kd.C_drewN ?_ _) | (with_reducible refine Kd.C_drew ?_))); (case side4 => exact HC1.out); rintro e w' ⟨rfl, ⟨nd, rfl⟩⟩; (try first | exact ⟨rfl, _, World.drewN_drewN _ _ _⟩ | exact ⟨rfl, _, Eq.trans (World.drewN_drewN _ _ _) (congrArg (World.drewN _) (Nat.add_assoc _ _ _))⟩)))
                        have hq40 := fun n => own_string (P := Try.prog) Try.underlying23 Try.underlying5 Try.underlying9 (Kd.own_of_R (Kd.R_drewN HO308.out n))
                        have hq41 := fun n => own_string (P := Try.prog) Try.underlying23 Try.underlying5 Try.underlying9 (Kd.own_of_R (Kd.R_drewN HO_6.out n))
                        have hq42 := fun n => own_string (P := Try.prog) Try.underlying23 Try.underlying5 Try.underlying9 (Kd.own_of_R (Kd.R_drewN HO_7.out n))
                        go_quiet (first | ((with_reducible refine gate_dst (N := 42) rfl ?_); (try (refine gate_guard (by rfl) ?_; dsimp only)); refine Kd.R_lit k31 _ 31 ?hg (N := 42) ?hd (xs := ([] : List (S31))) (inner := []) (ok := fun _ => True) (okp := fun _ => True) ?hr ?hp (fun _ hk => hk) trivial (Below.refl _ _) (Nat.le_refl _) (by simp) ?_; (case hd => rfl); (case hg => rfl); (case hr => first | (go_simp; done) | (go_simp; rfl)); (case hp => exact (Reps.none _ _)); intro v298 w34 ho35 hb hg_ hnew_; clear hg_ hnew_; (first | rw [← Ny297.out] at ho35 | (simp only [Int.reduceToNat] at ho35; rw [← Ny297.out] at ho35)); have n0_ := Aside0.mk (Kd.R_below (by (with_reducible repeat (first | apply Kd.R_alloc | apply Kd.R_drewN | apply Kd.R_drew)); exact HO_6.out) hb); have n1_ := Aside0.mk (Kd.R_below (by (with_reducible repeat (first | apply Kd.R_alloc | apply Kd.R_drewN | apply Kd.R_drew)); exact HO_7.out) hb); have n2_ := Aside0.mk (Kd.R_lower ho35 (below_size (by repeat (first | (with_reducible first | exact HB.out | apply below_alloc | apply pw_below_drewN | apply below_drew1) | exact HB.out)))); have n3_ := Aside0.mk (below_step (by repeat (first | (with_reducible first | exact HB.out | apply below_alloc | apply pw_below_drewN | apply below_drew1) | exact HB.out)) hb); clear HO_6; clear HO_7; clear HB; have HO_6 := n0_; have HO_7 := n1_; have HO299 := n2_; have HB := n3_; clear n0_ n1_ n2_ n3_; clear hb ho35) | ((with_reducible refine gate_builtin (b := .append) (xs := #[.tmp 42, .tmp 43]) rfl ?_); (try (refine gate_guard (by rfl) ?_; dsimp only)); at_builtin; refine Kd.R_append_rows k31 (w0 := w) w.heap.size rfl (.tmp 42) (.tmp 43) 22 31 (.agg #[(.int .i64 0), (.bool false), (.int .u64 0), (.int .u64 0), (.int .i64 0), (.int .i64 0), (.int .i64 0)]) 56 rfl Try.underlying22 info31 rfl (by decide) (by omega) v298 y297 l0 _ _ _ (fun _ => True) (fun _ => False) rfl rfl ?aO ?aR (fun _ _ h => h) (fun _ h => h.elim) ?aF ?aB ?aS ?aL ?_; (case aR => repeat (first | exact (Kd.C_below HR0.out HB.out) | (with_reducible refine Kd.C_alloc ?_ _) | (with_reducible refine Kd.C_drewN ?_ _) | (with_reducible refine Kd.C_drew ?_))); (case aB => exact (by repeat (first | (with_reducible first | exact HB.out | apply below_alloc | apply pw_below_drewN | apply below_drew1) | exact HB.out))); (case aF => exact (fun _ _ => trivial)); (case aO => exact (by (with_reducible repeat (first | apply Kd.R_alloc | apply Kd.R_drewN | apply Kd.R_drew)); exact HO299.out)); (case aS => exact (below_size (by repeat (first | (with_reducible first | exact HB.out | apply below_alloc | apply pw_below_drewN | apply below_drew1) | exact HB.out)))); (case aL => have := LMc27.out; omega); intro v301 w36 ho hb hg hat; rw [← Ny300.out] at ho; have n0_ := Aside0.mk (Kd.R_over' (by (with_reducible repeat (first | apply Kd.R_alloc | apply Kd.R_drewN | apply Kd.R_drew)); exact HO_6.out) (Kd.R_typed (by (with_reducible repeat (first | apply Kd.R_alloc | apply Kd.R_drewN | apply Kd.R_drew)); exact HO299.out)) (by decide) hg); have n1_ := Aside0.mk (Kd.R_over' (by (with_reducible repeat (first | apply Kd.R_alloc | apply Kd.R_drewN | apply Kd.R_drew)); exact HO_7.out) (Kd.R_typed (by (with_reducible repeat (first | apply Kd.R_alloc | apply Kd.R_drewN | apply Kd.R_drew)); exact HO299.out)) (by decide) hg); have n2_ := Aside0.mk (hb); have n3_ := Aside0.mk (ho); clear HO_6; clear HO_7; clear HB; clear HO299; have HO_6 := n0_; have HO_7 := n1_; have HB := n2_; have HO302 := n3_; clear n0_ n1_ n2_ n3_; clear ho hb hg hat) | ((with_reducible refine gate_builtin (b := .append) (xs := #[.tmp 44, .tmp 45]) rfl ?_); (try (refine gate_guard (by rfl) ?_; dsimp only)); at_builtin; refine Kd.R_append_rows k31 (w0 := w) w.heap.size rfl (.tmp 44) (.tmp 45) 22 31 (.agg #[(.int .i64 0), (.bool false), (.int .u64 0), (.int .u64 0), (.int .i64 0), (.int .i64 0), (.int .i64 0)]) 56 rfl Try.underlying22 info31 rfl (by decide) (by omega) v301 y300 l1 _ _ _ (fun _ => True) (fun _ => False) rfl rfl ?aO ?aR (fun _ _ h => h) (fun _ h => h.elim) ?aF ?aB ?aS ?aL ?_; (case aR => repeat (first | exact (Kd.C_below HR1.out HB.out) | (with_reducible refine Kd.C_alloc ?_ _) | (with_reducible refine Kd.C_drewN ?_ _) | (with_reducible refine Kd.C_drew ?_))); (case aB => exact (by repeat (first | (with_reducible first | exact HB.out | apply below_alloc | apply pw_below_drewN | apply below_drew1) | exact HB.out))); (case aF => exact (fun _ _ => trivial)); (case aO => exact (by (with_reducible repeat (first | apply Kd.R_alloc | apply Kd.R_drewN | apply Kd.R_drew)); exact HO302.out)); (case aS => exact (below_size (by repeat (first | (with_reducible first | exact HB.out | apply below_alloc | apply pw_below_drewN | apply below_drew1) | exact HB.out)))); (case aL => have := LMc28.out; omega); intro v304 w37 ho hb hg hat; rw [← Ny303.out] at ho; have n0_ := Aside0.mk (Kd.R_over' (by (with_reducible repeat (first | apply Kd.R_alloc | apply Kd.R_drewN | apply Kd.R_drew)); exact HO_6.out) (Kd.R_typed (by (with_reducible repeat (first | apply Kd.R_alloc | apply Kd.R_drewN | apply Kd.R_drew)); exact HO302.out)) (by decide) hg); have n1_ := Aside0.mk (Kd.R_over' (by (with_reducible repeat (first | apply Kd.R_alloc | apply Kd.R_drewN | apply Kd.R_drew)); exact HO_7.out) (Kd.R_typed (by (with_reducible repeat (first | apply Kd.R_alloc | apply Kd.R_drewN | apply Kd.R_drew)); exact HO302.out)) (by decide) hg); have n2_ := Aside0.mk (hb); have n3_ := Aside0.mk (ho); clear HO_6; clear HO_7; clear HB; clear HO302; have HO_6 := n0_; have HO_7 := n1_; have HB := n2_; have HO305 := n3_; clear n0_ n1_ n2_ n3_; clear ho hb hg hat; obtain ⟨Ao38, co38, eo38⟩ := Kd.R_slice HO305.out; subst eo38) | (go_at_call 15; (with_reducible refine (script_Put.calls kj9 _ _ y303 t306 _ ?side1 ?side2 A29.out).mono ?_); (case side1 => repeat (first | exact (Kd.R_reads' HO305.out).2.2 | (with_reducible refine Kd.C_alloc ?_ _) | (with_reducible refine Kd.C_drewN ?_ _) | (with_reducible refine Kd.C_drew ?_))); (case side2 => exact (Kd.R_reads' HO305.out).2.1); rintro e w39 ⟨v307, rfl, ho0, hb⟩; have n0_ := Aside0.mk (Kd.R_elder' (by (with_reducible repeat (first | apply Kd.R_alloc | apply Kd.R_drewN | apply Kd.R_drew)); exact HO_6.out) (Kd.R_base ho0) hb); have n1_ := Aside0.mk (Kd.R_elder' (by (with_reducible repeat (first | apply Kd.R_alloc | apply Kd.R_drewN | apply Kd.R_drew)); exact HO_7.out) (Kd.R_base ho0) hb); have n2_ := Aside0.mk (Kd.R_below (by (with_reducible repeat (first | apply Kd.R_alloc | apply Kd.R_drewN | apply Kd.R_drew)); exact HO305.out) hb); have n3_ := Aside0.mk (Kd.R_lower (Kd.R_new' (Kd.R_new' ho0 (Kd.R_lt (by (with_reducible repeat (first | apply Kd.R_alloc | apply Kd.R_drewN | apply Kd.R_drew)); exact HO_6.out))) (Kd.R_lt (by (with_reducible repeat (first | apply Kd.R_alloc | apply Kd.R_drewN | apply Kd.R_drew)); exact HO_7.out))) (below_size (by repeat (first | (with_reducible first | exact HB.out | apply below_alloc | apply pw_below_drewN | apply below_drew1) | exact HB.out)))); have n4_ := Aside0.mk (below_step (by repeat (first | (with_reducible first | exact HB.out | apply below_alloc | apply pw_below_drewN | apply below_drew1) | exact HB.out)) hb); clear HO_6; clear HO_7; clear HO305; clear HB; have HO_6 := n0_; have HO_7 := n1_; have HO305 := n2_; have HO308 := n3_; have HB := n4_; clear n0_ n1_ n2_ n3_ n4_; (try clear hb); (try clear hb2); (try clear hk); (try clear hi); (try clear ho0); have hcv40 := own_string (P := Try.prog) Try.underlying23 Try.underlying5 Try.underlying9 (Kd.own_of_R HO308.out); have hcv41 := own_string (P := Try.prog) Try.underlying23 Try.underlying5 Try.underlying9 (Kd.own_of_R HO_6.out); have hcv42 := own_string (P := Try.prog) Try.underlying23 Try.underlying5 Try.underlying9 (Kd.own_of_R HO_7.out); have hcv43 := own_string (P := Try.prog) Try.underlying23 Try.underlying5 Try.underlying9 (Kd.own_of_R HO_6.out); have hcv44 := own_string (P := Try.prog) Try.underlying23 Try.underlying5 Try.underlying9 (Kd.own_of_R HO_7.out)) | (go_at_call 17; (with_reducible refine (silhouetteref12_Same.calls kj9 _ _ l0 _ _ l1 t309 _ ?side1 ?side2 ?side3 ?side4 A33.out).mono ?_); (case side1 => repeat (first | exact (Kd.C_below HR0.out HB.out) | (with_reducible refine Kd.C_alloc ?_ _) | (with_reducible refine Kd.C_drewN ?_ _) | (with_reducible refine Kd.C_drew ?_))); (case side2 => exact HC0.out); (case side3 => repeat (first | exact (Kd.C_below HR1.out HB.out) | (with_reducible refine Kd.C_alloc ?_ _) | (with_reducible refine Kd.C_drewN ?_ _) | (with_reducible refine Kd.C_drew ?_))); (case side4 => exact HC1.out); rintro e w' ⟨rfl, ⟨nd, rfl⟩⟩; (try first | exact ⟨rfl, _, World.drewN_drewN _ _ _⟩ | exact ⟨rfl, _, Eq.trans (World.drewN_drewN _ _ _) (congrArg (World.drewN _) (Nat.add_assoc _ _ _))⟩)))
                        go_wp2_with fail
                        go_ret
                        exact ⟨by first | rfl | (simp [errW_none, errW_some] <;> rfl) | (simp [*, errW_none, errW_some] <;> rfl), by repeat (first | (with_reducible first | exact HB.out | apply below_alloc | apply pw_below_drewN | apply below_drew1) | exact HB.out)⟩
                      · rw [if_neg c32] at H
                        have c32b0 : ((strOfNums t306).toList == ((strOfNums t291) ++ (strOfNums t294)).toList) = false := beq_eq_false_iff_ne.mpr c32
                        have c32b1 : ((strOfNums t306).toList != ((strOfNums t291) ++ (strOfNums t294)).toList) = true := bne_iff_ne.mpr c32
                        obtain rfl := Option.some.inj H
                        exact absurd hr (by decide)
                    · rw [if_neg c31] at H
                      exact absurd H (by simp)
                  · replace c30 := Bool.eq_false_iff.mpr c30
                    subst c30
                    have H1 : (some false) = some r := by rw [if_neg (show ¬ (false = true) by decide)] at H; exact H
                    clear H
                    have H := H1
                    clear H1
                    obtain rfl := Option.some.inj H
                    exact absurd hr (by decide)
                · rw [if_neg c28] at H
                  exact absurd H (by simp)
              · rw [if_neg c27] at H
                exact absurd H (by simp)

end Go.Proofs.Ytmifcdmkobammaa.Q
