-- PRINTED BY print.sh 35421559b90ae4d0a3588c463048766b98c2df88dd9212a6774a882060cdf62d: not written by this session
import Derived.Test.YtiiaififiijcnaaPRightCodesx0
import Derived.Test.YtiiaififiijcnaaPRightCodesx2
import Derived.Test.YtiiaififiijcnaaPRightCodesx3
namespace Go.Proofs.Ytiiaififiijcnaa.PRightCodes
open Go.RowKit Go.Proofs.YtiiaififiijcnaaW.PrintWords Go.Proofs.YtiiaififiijcnaaW.PrintLast Go.Proofs.YtiiaififiijcnaaW.PrintMore
attribute [local go_sem] max2_int min2_int max_two min_two max_three min_three max_four min_four   -- for this text's walks alone
set_option linter.unusedVariables false
set_option linter.unusedSimpArgs false

/-! ### silhouettelaw06_RightCodes: function 7 -/
def silhouettelaw06_RightCodes.f (k : Nat) (a0 : Int) (a1 : Bool) (a2 : Bool) (a3 : Bool) : Option (Bool) := (silhouettelaw06_head.f k).bind fun t153 => ((right_Code.f (wrap64 (Int.tmod a0 3)) a1 a2 a3).bind fun t154 => (if t153 = true then (if t154 ≥ 0 then (if t154 < 32 then (if (((Go.bits .and .i64 t154 1) == 1) == a2) = true then (if (((Go.bits .and .i64 t154 2) == 2) == ((wrap64 (Int.tmod a0 3)) == 1)) = true then (if (((Go.bits .and .i64 t154 4) == 4) == a1) = true then (if a2 = true then (if (((Go.bits .and .i64 t154 8) == 8) == a3) = true then (some (((Go.bits .and .i64 t154 16) == 16) == ((wrap64 (Int.tmod a0 3)) == 2))) else (some false)) else (if (((Go.bits .and .i64 t154 8) == 8) == false) = true then (some (((Go.bits .and .i64 t154 16) == 16) == ((wrap64 (Int.tmod a0 3)) == 2))) else (some false))) else (some false)) else (some false)) else (some false)) else (some false)) else (some false)) else (some false)))
theorem silhouettelaw06_RightCodes.mono : ∀ a0 a1 a2 a3 k, LeO (silhouettelaw06_RightCodes.f k a0 a1 a2 a3) (silhouettelaw06_RightCodes.f (k + 1) a0 a1 a2 a3) := by
  intro a0 a1 a2 a3 k
  unfold silhouettelaw06_RightCodes.f
  repeat' first
      | (with_reducible exact silhouettelaw06_head.mono _)
      | (with_reducible exact LeO.refl _)
      | (with_reducible exact LeO.none _)
      | (with_reducible refine LeO.ite ?_ ?_)
      | (with_reducible refine LeO.bind ?_ (fun _ => ?_))
      | exact silhouettelaw06_head.mono _
      | exact LeO.none _
      | refine LeO.ite ?_ ?_
      | refine LeO.bind ?_ (fun _ => ?_)
set_option maxHeartbeats 8000000 in
set_option maxRecDepth 100000 in
theorem silhouettelaw06_RightCodes.calls (k : Nat) (a0 : Int) (a1 : Bool) (a2 : Bool) (a3 : Bool) (r : Bool) (w : World) (h : silhouettelaw06_RightCodes.f k a0 a1 a2 a3 = some r) :
    Calls Try.prog 7 #[.int .u8 a0, .bool a1, .bool a2, .bool a3] w fun e w' => e = .returned (.bool r) ∧ Below w.heap.size w w' := by
  have HB := Aside0.mk (Below.refl w.heap.size w)
  have H : ((silhouettelaw06_head.f k).bind fun t153 => ((right_Code.f (wrap64 (Int.tmod a0 3)) a1 a2 a3).bind fun t154 => (if t153 = true then (if t154 ≥ 0 then (if t154 < 32 then (if (((Go.bits .and .i64 t154 1) == 1) == a2) = true then (if (((Go.bits .and .i64 t154 2) == 2) == ((wrap64 (Int.tmod a0 3)) == 1)) = true then (if (((Go.bits .and .i64 t154 4) == 4) == a1) = true then (if a2 = true then (if (((Go.bits .and .i64 t154 8) == 8) == a3) = true then (some (((Go.bits .and .i64 t154 16) == 16) == ((wrap64 (Int.tmod a0 3)) == 2))) else (some false)) else (if (((Go.bits .and .i64 t154 8) == 8) == false) = true then (some (((Go.bits .and .i64 t154 16) == 16) == ((wrap64 (Int.tmod a0 3)) == 2))) else (some false))) else (some false)) else (some false)) else (some false)) else (some false)) else (some false)) else (some false)))) = some r := h
  clear h
  replace H := Option.bind_eq_some_iff.mp H
  obtain ⟨t153, A50, H⟩ := H
  replace H : ((right_Code.f (wrap64 (Int.tmod a0 3)) a1 a2 a3).bind fun t154 => (if t153 = true then (if t154 ≥ 0 then (if t154 < 32 then (if (((Go.bits .and .i64 t154 1) == 1) == a2) = true then (if (((Go.bits .and .i64 t154 2) == 2) == ((wrap64 (Int.tmod a0 3)) == 1)) = true then (if (((Go.bits .and .i64 t154 4) == 4) == a1) = true then (if a2 = true then (if (((Go.bits .and .i64 t154 8) == 8) == a3) = true then (some (((Go.bits .and .i64 t154 16) == 16) == ((wrap64 (Int.tmod a0 3)) == 2))) else (some false)) else (if (((Go.bits .and .i64 t154 8) == 8) == false) = true then (some (((Go.bits .and .i64 t154 16) == 16) == ((wrap64 (Int.tmod a0 3)) == 2))) else (some false))) else (some false)) else (some false)) else (some false)) else (some false)) else (some false)) else (some false))) = some r := H
  have A5 := Aside0.mk A50
  clear A50
  replace H := Option.bind_eq_some_iff.mp H
  obtain ⟨t154, A60, H⟩ := H
  replace H : (if t153 = true then (if t154 ≥ 0 then (if t154 < 32 then (if (((Go.bits .and .i64 t154 1) == 1) == a2) = true then (if (((Go.bits .and .i64 t154 2) == 2) == ((wrap64 (Int.tmod a0 3)) == 1)) = true then (if (((Go.bits .and .i64 t154 4) == 4) == a1) = true then (if a2 = true then (if (((Go.bits .and .i64 t154 8) == 8) == a3) = true then (some (((Go.bits .and .i64 t154 16) == 16) == ((wrap64 (Int.tmod a0 3)) == 2))) else (some false)) else (if (((Go.bits .and .i64 t154 8) == 8) == false) = true then (some (((Go.bits .and .i64 t154 16) == 16) == ((wrap64 (Int.tmod a0 3)) == 2))) else (some false))) else (some false)) else (some false)) else (some false)) else (some false)) else (some false)) else (some false)) = some r := H
  have A6 := Aside0.mk A60
  clear A60
  by_cases c7 : t153 = true
  · subst c7
    have H1 : (if t154 ≥ 0 then (if t154 < 32 then (if (((Go.bits .and .i64 t154 1) == 1) == a2) = true then (if (((Go.bits .and .i64 t154 2) == 2) == ((wrap64 (Int.tmod a0 3)) == 1)) = true then (if (((Go.bits .and .i64 t154 4) == 4) == a1) = true then (if a2 = true then (if (((Go.bits .and .i64 t154 8) == 8) == a3) = true then (some (((Go.bits .and .i64 t154 16) == 16) == ((wrap64 (Int.tmod a0 3)) == 2))) else (some false)) else (if (((Go.bits .and .i64 t154 8) == 8) == false) = true then (some (((Go.bits .and .i64 t154 16) == 16) == ((wrap64 (Int.tmod a0 3)) == 2))) else (some false))) else (some false)) else (some false)) else (some false)) else (some false)) else (some false)) = some r := by rw [if_pos rfl] at H; exact H
    clear H
    have H := H1
    clear H1
    by_cases c8 : t154 ≥ 0
    · rw [if_pos c8] at H
      have c8b0 : decide (0 ≤ t154) = true := decide_eq_true c8
      clear c8
      by_cases c9 : t154 < 32
      · rw [if_pos c9] at H
        have c9b0 : decide (t154 < 32) = true := decide_eq_true c9
        clear c9
        by_cases c10 : (((Go.bits .and .i64 t154 1) == 1) == a2) = true
        · rw [if_pos c10] at H
          have c10b0 : (((Go.bits .and .i64 t154 1) == 1) == a2) = true := c10
          (try (have c10b1 : decide (((Go.bits .and .i64 t154 1) == 1) = a2) = true := by simpa using c10))
          (try (have c10b2 : (((Go.bits .and .i64 t154 1) == 1) == a2) = true := by simpa using c10))
          clear c10
          by_cases c11 : (((Go.bits .and .i64 t154 2) == 2) == ((wrap64 (Int.tmod a0 3)) == 1)) = true
          · rw [if_pos c11] at H
            have c11b0 : (((Go.bits .and .i64 t154 2) == 2) == ((wrap64 (Int.tmod a0 3)) == 1)) = true := c11
            (try (have c11b1 : decide (((Go.bits .and .i64 t154 2) == 2) = ((wrap64 (Int.tmod a0 3)) == 1)) = true := by simpa using c11))
            (try (have c11b2 : (((Go.bits .and .i64 t154 2) == 2) == ((wrap64 (Int.tmod a0 3)) == 1)) = true := by simpa using c11))
            clear c11
            by_cases c12 : (((Go.bits .and .i64 t154 4) == 4) == a1) = true
            · rw [if_pos c12] at H
              have c12b0 : (((Go.bits .and .i64 t154 4) == 4) == a1) = true := c12
              (try (have c12b1 : decide (((Go.bits .and .i64 t154 4) == 4) = a1) = true := by simpa using c12))
              (try (have c12b2 : (((Go.bits .and .i64 t154 4) == 4) == a1) = true := by simpa using c12))
              clear c12
              by_cases c13 : a2 = true
              · subst c13
                have H1 : (if (((Go.bits .and .i64 t154 8) == 8) == a3) = true then (some (((Go.bits .and .i64 t154 16) == 16) == ((wrap64 (Int.tmod a0 3)) == 2))) else (some false)) = some r := by rw [if_pos rfl] at H; exact H
                clear H
                have H := H1
                clear H1
                by_cases c14 : (((Go.bits .and .i64 t154 8) == 8) == a3) = true
                · rw [if_pos c14] at H
                  have c14b0 : (((Go.bits .and .i64 t154 8) == 8) == a3) = true := c14
                  (try (have c14b1 : decide (((Go.bits .and .i64 t154 8) == 8) = a3) = true := by simpa using c14))
                  (try (have c14b2 : (((Go.bits .and .i64 t154 8) == 8) == a3) = true := by simpa using c14))
                  clear c14
                  obtain rfl := Option.some.inj H
                  go_enter Try.func7, Try.ntmps7
                  go_wp2_with (first | ((with_reducible refine gate_callee (f := 10) rfl ?_); refine goesL_ (some 12) rfl rfl Try.func10 (by kernel_rfl) rfl #[] rfl (by (try simp only [List.map_toArray, List.map_cons, List.map_nil]); first | done | rfl | (simp only [List.length_drop, List.length_take]; rfl)) ?_; (with_reducible refine (silhouettelaw06_head.calls k  true _ A5.out).mono ?_); rintro e w15 ⟨rfl, hb⟩; refine ⟨_, rfl, ?_⟩; have n0_ := Aside0.mk (below_step (by repeat (first | (with_reducible first | exact HB.out | apply below_alloc | apply pw_below_drewN | apply below_drew1) | exact HB.out)) hb); clear HB; have HB := n0_; clear n0_; (try clear hb); (try clear hb2); (try clear hk); (try clear hi)) | ((with_reducible refine gate_callee (f := 21) rfl ?_); refine goesL_ (some 20) rfl rfl Try.func21 (by kernel_rfl) rfl #[.int .i64 (wrap64 (Int.tmod a0 3)), .bool a1, .bool true, .bool a3] rfl (by (try simp only [List.map_toArray, List.map_cons, List.map_nil]); first | done | rfl | (simp only [List.length_drop, List.length_take]; rfl)) ?_; (with_reducible refine (right_Code.calls (wrap64 (Int.tmod a0 3)) a1 true a3 t154 _ A6.out).mono ?_); rintro e w' ⟨rfl, ⟨nd, rfl⟩⟩; refine ⟨_, rfl, ?_⟩))
                  go_ret
                  exact ⟨by first | rfl | (simp [errW_none, errW_some] <;> rfl) | (simp [*, errW_none, errW_some] <;> rfl), by repeat (first | (with_reducible first | exact HB.out | apply below_alloc | apply pw_below_drewN | apply below_drew1) | exact HB.out)⟩
                · rw [if_neg c14] at H
                  have c14b0 : (((Go.bits .and .i64 t154 8) == 8) == a3) = false := by simpa using c14
                  (try (have c14b1 : decide (((Go.bits .and .i64 t154 8) == 8) = a3) = false := by simpa using c14))
                  (try (have c14b2 : (((Go.bits .and .i64 t154 8) == 8) == a3) = false := by simpa using c14))
                  (try (have c14b3 : ¬ (((Go.bits .and .i64 t154 8) == 8) = a3) := by simpa using c14))
                  clear c14
                  obtain rfl := Option.some.inj H
                  go_enter Try.func7, Try.ntmps7
                  go_wp2_with (first | ((with_reducible refine gate_callee (f := 10) rfl ?_); refine goesL_ (some 12) rfl rfl Try.func10 (by kernel_rfl) rfl #[] rfl (by (try simp only [List.map_toArray, List.map_cons, List.map_nil]); first | done | rfl | (simp only [List.length_drop, List.length_take]; rfl)) ?_; (with_reducible refine (silhouettelaw06_head.calls k  true _ A5.out).mono ?_); rintro e w16 ⟨rfl, hb⟩; refine ⟨_, rfl, ?_⟩; have n0_ := Aside0.mk (below_step (by repeat (first | (with_reducible first | exact HB.out | apply below_alloc | apply pw_below_drewN | apply below_drew1) | exact HB.out)) hb); clear HB; have HB := n0_; clear n0_; (try clear hb); (try clear hb2); (try clear hk); (try clear hi)) | ((with_reducible refine gate_callee (f := 21) rfl ?_); refine goesL_ (some 20) rfl rfl Try.func21 (by kernel_rfl) rfl #[.int .i64 (wrap64 (Int.tmod a0 3)), .bool a1, .bool true, .bool a3] rfl (by (try simp only [List.map_toArray, List.map_cons, List.map_nil]); first | done | rfl | (simp only [List.length_drop, List.length_take]; rfl)) ?_; (with_reducible refine (right_Code.calls (wrap64 (Int.tmod a0 3)) a1 true a3 t154 _ A6.out).mono ?_); rintro e w' ⟨rfl, ⟨nd, rfl⟩⟩; refine ⟨_, rfl, ?_⟩))
                  go_ret
                  exact ⟨by first | rfl | (simp [errW_none, errW_some] <;> rfl) | (simp [*, errW_none, errW_some] <;> rfl), by repeat (first | (with_reducible first | exact HB.out | apply below_alloc | apply pw_below_drewN | apply below_drew1) | exact HB.out)⟩
              · replace c13 := Bool.eq_false_iff.mpr c13
                subst c13
                have H1 : (if (((Go.bits .and .i64 t154 8) == 8) == false) = true then (some (((Go.bits .and .i64 t154 16) == 16) == ((wrap64 (Int.tmod a0 3)) == 2))) else (some false)) = some r := by rw [if_neg (show ¬ (false = true) by decide)] at H; exact H
                clear H
                have H := H1
                clear H1
                by_cases c17 : (((Go.bits .and .i64 t154 8) == 8) == false) = true
                · rw [if_pos c17] at H
                  have c17b0 : (((Go.bits .and .i64 t154 8) == 8) == false) = true := c17
                  (try (have c17b1 : decide (((Go.bits .and .i64 t154 8) == 8) = false) = true := by simpa using c17))
                  (try (have c17b2 : (((Go.bits .and .i64 t154 8) == 8) == false) = true := by simpa using c17))
                  clear c17
                  obtain rfl := Option.some.inj H
                  go_enter Try.func7, Try.ntmps7
                  go_wp2_with (first | ((with_reducible refine gate_callee (f := 10) rfl ?_); refine goesL_ (some 12) rfl rfl Try.func10 (by kernel_rfl) rfl #[] rfl (by (try simp only [List.map_toArray, List.map_cons, List.map_nil]); first | done | rfl | (simp only [List.length_drop, List.length_take]; rfl)) ?_; (with_reducible refine (silhouettelaw06_head.calls k  true _ A5.out).mono ?_); rintro e w18 ⟨rfl, hb⟩; refine ⟨_, rfl, ?_⟩; have n0_ := Aside0.mk (below_step (by repeat (first | (with_reducible first | exact HB.out | apply below_alloc | apply pw_below_drewN | apply below_drew1) | exact HB.out)) hb); clear HB; have HB := n0_; clear n0_; (try clear hb); (try clear hb2); (try clear hk); (try clear hi)) | ((with_reducible refine gate_callee (f := 21) rfl ?_); refine goesL_ (some 20) rfl rfl Try.func21 (by kernel_rfl) rfl #[.int .i64 (wrap64 (Int.tmod a0 3)), .bool a1, .bool false, .bool a3] rfl (by (try simp only [List.map_toArray, List.map_cons, List.map_nil]); first | done | rfl | (simp only [List.length_drop, List.length_take]; rfl)) ?_; (with_reducible refine (right_Code.calls (wrap64 (Int.tmod a0 3)) a1 false a3 t154 _ A6.out).mono ?_); rintro e w' ⟨rfl, ⟨nd, rfl⟩⟩; refine ⟨_, rfl, ?_⟩))
                  go_ret
                  exact ⟨by first | rfl | (simp [errW_none, errW_some] <;> rfl) | (simp [*, errW_none, errW_some] <;> rfl), by repeat (first | (with_reducible first | exact HB.out | apply below_alloc | apply pw_below_drewN | apply below_drew1) | exact HB.out)⟩
                · rw [if_neg c17] at H
                  have c17b0 : (((Go.bits .and .i64 t154 8) == 8) == false) = false := by simpa using c17
                  (try (have c17b1 : decide (((Go.bits .and .i64 t154 8) == 8) = false) = false := by simpa using c17))
                  (try (have c17b2 : (((Go.bits .and .i64 t154 8) == 8) == false) = false := by simpa using c17))
                  (try (have c17b3 : ¬ (((Go.bits .and .i64 t154 8) == 8) = false) := by simpa using c17))
                  clear c17
                  obtain rfl := Option.some.inj H
                  go_enter Try.func7, Try.ntmps7
                  go_wp2_with (first | ((with_reducible refine gate_callee (f := 10) rfl ?_); refine goesL_ (some 12) rfl rfl Try.func10 (by kernel_rfl) rfl #[] rfl (by (try simp only [List.map_toArray, List.map_cons, List.map_nil]); first | done | rfl | (simp only [List.length_drop, List.length_take]; rfl)) ?_; (with_reducible refine (silhouettelaw06_head.calls k  true _ A5.out).mono ?_); rintro e w19 ⟨rfl, hb⟩; refine ⟨_, rfl, ?_⟩; have n0_ := Aside0.mk (below_step (by repeat (first | (with_reducible first | exact HB.out | apply below_alloc | apply pw_below_drewN | apply below_drew1) | exact HB.out)) hb); clear HB; have HB := n0_; clear n0_; (try clear hb); (try clear hb2); (try clear hk); (try clear hi)) | ((with_reducible refine gate_callee (f := 21) rfl ?_); refine goesL_ (some 20) rfl rfl Try.func21 (by kernel_rfl) rfl #[.int .i64 (wrap64 (Int.tmod a0 3)), .bool a1, .bool false, .bool a3] rfl (by (try simp only [List.map_toArray, List.map_cons, List.map_nil]); first | done | rfl | (simp only [List.length_drop, List.length_take]; rfl)) ?_; (with_reducible refine (right_Code.calls (wrap64 (Int.tmod a0 3)) a1 false a3 t154 _ A6.out).mono ?_); rintro e w' ⟨rfl, ⟨nd, rfl⟩⟩; refine ⟨_, rfl, ?_⟩))
                  go_ret
                  exact ⟨by first | rfl | (simp [errW_none, errW_some] <;> rfl) | (simp [*, errW_none, errW_some] <;> rfl), by repeat (first | (with_reducible first | exact HB.out | apply below_alloc | apply pw_below_drewN | apply below_drew1) | exact HB.out)⟩
            · rw [if_neg c12] at H
              have c12b0 : (((Go.bits .and .i64 t154 4) == 4) == a1) = false := by simpa using c12
              (try (have c12b1 : decide (((Go.bits .and .i64 t154 4) == 4) = a1) = false := by simpa using c12))
              (try (have c12b2 : (((Go.bits .and .i64 t154 4) == 4) == a1) = false := by simpa using c12))
              (try (have c12b3 : ¬ (((Go.bits .and .i64 t154 4) == 4) = a1) := by simpa using c12))
              clear c12
              obtain rfl := Option.some.inj H
              go_enter Try.func7, Try.ntmps7
              go_wp2_with (first | ((with_reducible refine gate_callee (f := 10) rfl ?_); refine goesL_ (some 12) rfl rfl Try.func10 (by kernel_rfl) rfl #[] rfl (by (try simp only [List.map_toArray, List.map_cons, List.map_nil]); first | done | rfl | (simp only [List.length_drop, List.length_take]; rfl)) ?_; (with_reducible refine (silhouettelaw06_head.calls k  true _ A5.out).mono ?_); rintro e w20 ⟨rfl, hb⟩; refine ⟨_, rfl, ?_⟩; have n0_ := Aside0.mk (below_step (by repeat (first | (with_reducible first | exact HB.out | apply below_alloc | apply pw_below_drewN | apply below_drew1) | exact HB.out)) hb); clear HB; have HB := n0_; clear n0_; (try clear hb); (try clear hb2); (try clear hk); (try clear hi)) | ((with_reducible refine gate_callee (f := 21) rfl ?_); refine goesL_ (some 20) rfl rfl Try.func21 (by kernel_rfl) rfl #[.int .i64 (wrap64 (Int.tmod a0 3)), .bool a1, .bool a2, .bool a3] rfl (by (try simp only [List.map_toArray, List.map_cons, List.map_nil]); first | done | rfl | (simp only [List.length_drop, List.length_take]; rfl)) ?_; (with_reducible refine (right_Code.calls (wrap64 (Int.tmod a0 3)) a1 a2 a3 t154 _ A6.out).mono ?_); rintro e w' ⟨rfl, ⟨nd, rfl⟩⟩; refine ⟨_, rfl, ?_⟩))
              go_ret
              exact ⟨by first | rfl | (simp [errW_none, errW_some] <;> rfl) | (simp [*, errW_none, errW_some] <;> rfl), by repeat (first | (with_reducible first | exact HB.out | apply below_alloc | apply pw_below_drewN | apply below_drew1) | exact HB.out)⟩
          · rw [if_neg c11] at H
            have c11b0 : (((Go.bits .and .i64 t154 2) == 2) == ((wrap64 (Int.tmod a0 3)) == 1)) = false := by simpa using c11
            (try (have c11b1 : decide (((Go.bits .and .i64 t154 2) == 2) = ((wrap64 (Int.tmod a0 3)) == 1)) = false := by simpa using c11))
            (try (have c11b2 : (((Go.bits .and .i64 t154 2) == 2) == ((wrap64 (Int.tmod a0 3)) == 1)) = false := by simpa using c11))
            (try (have c11b3 : ¬ (((Go.bits .and .i64 t154 2) == 2) = ((wrap64 (Int.tmod a0 3)) == 1)) := by simpa using c11))
            clear c11
            obtain rfl := Option.some.inj H
            go_enter Try.func7, Try.ntmps7
            go_wp2_with (first | ((with_reducible refine gate_callee (f := 10) rfl ?_); refine goesL_ (some 12) rfl rfl Try.func10 (by kernel_rfl) rfl #[] rfl (by (try simp only [List.map_toArray, List.map_cons, List.map_nil]); first | done | rfl | (simp only [List.length_drop, List.length_take]; rfl)) ?_; (with_reducible refine (silhouettelaw06_head.calls k  true _ A5.out).mono ?_); rintro e w21 ⟨rfl, hb⟩; refine ⟨_, rfl, ?_⟩; have n0_ := Aside0.mk (below_step (by repeat (first | (with_reducible first | exact HB.out | apply below_alloc | apply pw_below_drewN | apply below_drew1) | exact HB.out)) hb); clear HB; have HB := n0_; clear n0_; (try clear hb); (try clear hb2); (try clear hk); (try clear hi)) | ((with_reducible refine gate_callee (f := 21) rfl ?_); refine goesL_ (some 20) rfl rfl Try.func21 (by kernel_rfl) rfl #[.int .i64 (wrap64 (Int.tmod a0 3)), .bool a1, .bool a2, .bool a3] rfl (by (try simp only [List.map_toArray, List.map_cons, List.map_nil]); first | done | rfl | (simp only [List.length_drop, List.length_take]; rfl)) ?_; (with_reducible refine (right_Code.calls (wrap64 (Int.tmod a0 3)) a1 a2 a3 t154 _ A6.out).mono ?_); rintro e w' ⟨rfl, ⟨nd, rfl⟩⟩; refine ⟨_, rfl, ?_⟩))
            go_ret
            exact ⟨by first | rfl | (simp [errW_none, errW_some] <;> rfl) | (simp [*, errW_none, errW_some] <;> rfl), by repeat (first | (with_reducible first | exact HB.out | apply below_alloc | apply pw_below_drewN | apply below_drew1) | exact HB.out)⟩
        · rw [if_neg c10] at H
          have c10b0 : (((Go.bits .and .i64 t154 1) == 1) == a2) = false := by simpa using c10
          (try (have c10b1 : decide (((Go.bits .and .i64 t154 1) == 1) = a2) = false := by simpa using c10))
          (try (have c10b2 : (((Go.bits .and .i64 t154 1) == 1) == a2) = false := by simpa using c10))
          (try (have c10b3 : ¬ (((Go.bits .and .i64 t154 1) == 1) = a2) := by simpa using c10))
          clear c10
          obtain rfl := Option.some.inj H
          go_enter Try.func7, Try.ntmps7
          go_wp2_with (first | ((with_reducible refine gate_callee (f := 10) rfl ?_); refine goesL_ (some 12) rfl rfl Try.func10 (by kernel_rfl) rfl #[] rfl (by (try simp only [List.map_toArray, List.map_cons, List.map_nil]); first | done | rfl | (simp only [List.length_drop, List.length_take]; rfl)) ?_; (with_reducible refine (silhouettelaw06_head.calls k  true _ A5.out).mono ?_); rintro e w22 ⟨rfl, hb⟩; refine ⟨_, rfl, ?_⟩; have n0_ := Aside0.mk (below_step (by repeat (first | (with_reducible first | exact HB.out | apply below_alloc | apply pw_below_drewN | apply below_drew1) | exact HB.out)) hb); clear HB; have HB := n0_; clear n0_; (try clear hb); (try clear hb2); (try clear hk); (try clear hi)) | ((with_reducible refine gate_callee (f := 21) rfl ?_); refine goesL_ (some 20) rfl rfl Try.func21 (by kernel_rfl) rfl #[.int .i64 (wrap64 (Int.tmod a0 3)), .bool a1, .bool a2, .bool a3] rfl (by (try simp only [List.map_toArray, List.map_cons, List.map_nil]); first | done | rfl | (simp only [List.length_drop, List.length_take]; rfl)) ?_; (with_reducible refine (right_Code.calls (wrap64 (Int.tmod a0 3)) a1 a2 a3 t154 _ A6.out).mono ?_); rintro e w' ⟨rfl, ⟨nd, rfl⟩⟩; refine ⟨_, rfl, ?_⟩))
          go_ret
          exact ⟨by first | rfl | (simp [errW_none, errW_some] <;> rfl) | (simp [*, errW_none, errW_some] <;> rfl), by repeat (first | (with_reducible first | exact HB.out | apply below_alloc | apply pw_below_drewN | apply below_drew1) | exact HB.out)⟩
      · rw [if_neg c9] at H
        have c9b0 : decide (t154 < 32) = false := decide_eq_false c9
        clear c9
        obtain rfl := Option.some.inj H
        go_enter Try.func7, Try.ntmps7
        go_wp2_with (first | ((with_reducible refine gate_callee (f := 10) rfl ?_); refine goesL_ (some 12) rfl rfl Try.func10 (by kernel_rfl) rfl #[] rfl (by (try simp only [List.map_toArray, List.map_cons, List.map_nil]); first | done | rfl | (simp only [List.length_drop, List.length_take]; rfl)) ?_; (with_reducible refine (silhouettelaw06_head.calls k  true _ A5.out).mono ?_); rintro e w23 ⟨rfl, hb⟩; refine ⟨_, rfl, ?_⟩; have n0_ := Aside0.mk (below_step (by repeat (first | (with_reducible first | exact HB.out | apply below_alloc | apply pw_below_drewN | apply below_drew1) | exact HB.out)) hb); clear HB; have HB := n0_; clear n0_; (try clear hb); (try clear hb2); (try clear hk); (try clear hi)) | ((with_reducible refine gate_callee (f := 21) rfl ?_); refine goesL_ (some 20) rfl rfl Try.func21 (by kernel_rfl) rfl #[.int .i64 (wrap64 (Int.tmod a0 3)), .bool a1, .bool a2, .bool a3] rfl (by (try simp only [List.map_toArray, List.map_cons, List.map_nil]); first | done | rfl | (simp only [List.length_drop, List.length_take]; rfl)) ?_; (with_reducible refine (right_Code.calls (wrap64 (Int.tmod a0 3)) a1 a2 a3 t154 _ A6.out).mono ?_); rintro e w' ⟨rfl, ⟨nd, rfl⟩⟩; refine ⟨_, rfl, ?_⟩))
        go_ret
        exact ⟨by first | rfl | (simp [errW_none, errW_some] <;> rfl) | (simp [*, errW_none, errW_some] <;> rfl), by repeat (first | (with_reducible first | exact HB.out | apply below_alloc | apply pw_below_drewN | apply below_drew1) | exact HB.out)⟩
    · rw [if_neg c8] at H
      have c8b0 : decide (0 ≤ t154) = false := decide_eq_false c8
      clear c8
      obtain rfl := Option.some.inj H
      go_enter Try.func7, Try.ntmps7
      go_wp2_with (first | ((with_reducible refine gate_callee (f := 10) rfl ?_); refine goesL_ (some 12) rfl rfl Try.func10 (by kernel_rfl) rfl #[] rfl (by (try simp only [List.map_toArray, List.map_cons, List.map_nil]); first | done | rfl | (simp only [List.length_drop, List.length_take]; rfl)) ?_; (with_reducible refine (silhouettelaw06_head.calls k  true _ A5.out).mono ?_); rintro e w24 ⟨rfl, hb⟩; refine ⟨_, rfl, ?_⟩; have n0_ := Aside0.mk (below_step (by repeat (first | (with_reducible first | exact HB.out | apply below_alloc | apply pw_below_drewN | apply below_drew1) | exact HB.out)) hb); clear HB; have HB := n0_; clear n0_; (try clear hb); (try clear hb2); (try clear hk); (try clear hi)) | ((with_reducible refine gate_callee (f := 21) rfl ?_); refine goesL_ (some 20) rfl rfl Try.func21 (by kernel_rfl) rfl #[.int .i64 (wrap64 (Int.tmod a0 3)), .bool a1, .bool a2, .bool a3] rfl (by (try simp only [List.map_toArray, List.map_cons, List.map_nil]); first | done | rfl | (simp only [List.length_drop, List.length_take]; rfl)) ?_; (with_reducible refine (right_Code.calls (wrap64 (Int.tmod a0 3)) a1 a2 a3 t154 _ A6.out).mono ?_); rintro e w' ⟨rfl, ⟨nd, rfl⟩⟩; refine ⟨_, rfl, ?_⟩))
      go_ret
      exact ⟨by first | rfl | (simp [errW_none, errW_some] <;> rfl) | (simp [*, errW_none, errW_some] <;> rfl), by repeat (first | (with_reducible first | exact HB.out | apply below_alloc | apply pw_below_drewN | apply below_drew1) | exact HB.out)⟩
  · replace c7 := Bool.eq_false_iff.mpr c7
    subst c7
    have H1 : (some false) = some r := by rw [if_neg (show ¬ (false = true) by decide)] at H; exact H
    clear H
    have H := H1
    clear H1
    obtain rfl := Option.some.inj H
    go_enter Try.func7, Try.ntmps7
    go_wp2_with (first | ((with_reducible refine gate_callee (f := 10) rfl ?_); refine goesL_ (some 12) rfl rfl Try.func10 (by kernel_rfl) rfl #[] rfl (by (try simp only [List.map_toArray, List.map_cons, List.map_nil]); first | done | rfl | (simp only [List.length_drop, List.length_take]; rfl)) ?_; (with_reducible refine (silhouettelaw06_head.calls k  false _ A5.out).mono ?_); rintro e w25 ⟨rfl, hb⟩; refine ⟨_, rfl, ?_⟩; have n0_ := Aside0.mk (below_step (by repeat (first | (with_reducible first | exact HB.out | apply below_alloc | apply pw_below_drewN | apply below_drew1) | exact HB.out)) hb); clear HB; have HB := n0_; clear n0_; (try clear hb); (try clear hb2); (try clear hk); (try clear hi)) | ((with_reducible refine gate_callee (f := 21) rfl ?_); refine goesL_ (some 20) rfl rfl Try.func21 (by kernel_rfl) rfl #[.int .i64 (wrap64 (Int.tmod a0 3)), .bool a1, .bool a2, .bool a3] rfl (by (try simp only [List.map_toArray, List.map_cons, List.map_nil]); first | done | rfl | (simp only [List.length_drop, List.length_take]; rfl)) ?_; (with_reducible refine (right_Code.calls (wrap64 (Int.tmod a0 3)) a1 a2 a3 t154 _ A6.out).mono ?_); rintro e w' ⟨rfl, ⟨nd, rfl⟩⟩; refine ⟨_, rfl, ?_⟩))
    go_ret
    exact ⟨by first | rfl | (simp [errW_none, errW_some] <;> rfl) | (simp [*, errW_none, errW_some] <;> rfl), by repeat (first | (with_reducible first | exact HB.out | apply below_alloc | apply pw_below_drewN | apply below_drew1) | exact HB.out)⟩

/-- THE ONE PURE STATEMENT of silhouettelaw06_RightCodes: yours. -/
def silhouettelaw06_RightCodes.Pure : Prop := ∀ (a0 : Int) (a1 : Bool) (a2 : Bool) (a3 : Bool), (Lit.int .u8 a0).wf = true → ∃ k, silhouettelaw06_RightCodes.f k a0 a1 a2 a3 = some true
theorem silhouettelaw06_RightCodes.walk (P : silhouettelaw06_RightCodes.Pure) (a0 : Int) (a1 : Bool) (a2 : Bool) (a3 : Bool) (w : World) (w0 : (Lit.int .u8 a0).wf = true) :
    Calls Try.prog 7 #[.int .u8 a0, .bool a1, .bool a2, .bool a3] w fun e w' => e = .returned (.bool true) ∧ Below w.heap.size w w' := by
  obtain ⟨k, h⟩ := P a0 a1 a2 a3 w0
  refine (silhouettelaw06_RightCodes.calls k a0 a1 a2 a3 true w h).mono ?_
  rintro e w' ⟨rfl, hd⟩
  exact ⟨rfl, hd⟩

end Go.Proofs.Ytiiaififiijcnaa.PRightCodes
