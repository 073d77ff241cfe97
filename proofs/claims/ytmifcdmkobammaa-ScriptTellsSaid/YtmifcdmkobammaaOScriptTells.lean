/- Layer 12: ScriptTells, walked where it answers true. -/
import Derived.Test.YtmifcdmkobammaaQx0
import Derived.Test.YtmifcdmkobammaaY2
import Derived.Test.YtmifcdmkobammaaYh
import Derived.Test.YtmifcdmkobammaaRefAll
import Derived.Test.YtmifcdmkobammaaY3
import Derived.Test.YtmifcdmkobammaaY6b
import Derived.Test.YtmifcdmkobammaaY7
namespace Go.Proofs.Ytmifcdmkobammaa.Q
open Go.RowKit Go.Proofs.YtmifcdmkobammaaW.PrintWords Go.Proofs.YtmifcdmkobammaaW.PrintLast Go.Proofs.YtmifcdmkobammaaW.PrintMore
open Go.Proofs.Ytmifcdmkobammaa.ScriptWalk (script_Right.f script_Right.calls script_put.f script_put.calls script_Get.f script_Get.calls script_Get.mono silhouetteref12_Right.f silhouetteref12_Right.calls)
attribute [local go_sem] max2_int min2_int max_two min_two max_three min_three max_four min_four   -- for this text's walks alone
set_option linter.unusedVariables false
set_option linter.unusedSimpArgs false

/-! ### silhouettelaw12_ScriptTells: function 3 -/
mutual
def silhouettelaw12_ScriptTells.j0 : Nat → List (S31) → List Int → Bool → Bool → Option (Bool)
  | 0, _, _, _, _ => none
  | k + 1, x0, x1, x5, x21 => if x21 = true then (some x5) else ((script_Get.f k x1).bind fun bt203 => ((silhouetteref12_Get.f k x1).bind fun bt208 => (silhouettelaw12_ScriptTells.l0 k x0 x5 bt203.1 bt203.2.1 bt203.2.2 bt208.1 bt208.2.1 bt208.2.2 0)))
def silhouettelaw12_ScriptTells.l0 : Nat → List (S31) → Bool → List (S31) → Int → Int → List (S31) → Int → Int → Int → Option (Bool)
  | 0, _, _, _, _, _, _, _, _, _ => none
  | k + 1, x0, x5, x6, x7, x8, x9, x10, x11, x12 => if x12 < (x0.length : Int) then (if 0 ≤ x12 then ((script_Right.f ((rd_T31 x0 x12).f0) ((rd_T31 x0 x12).f1) ((rd_T31 x0 x12).f2) ((rd_T31 x0 x12).f3) ((rd_T31 x0 x12).f4) ((rd_T31 x0 x12).f5) ((rd_T31 x0 x12).f6)).bind fun t221 => ((silhouetteref12_Right.f ((rd_T31 x0 x12).f0) ((rd_T31 x0 x12).f1) ((rd_T31 x0 x12).f2) ((rd_T31 x0 x12).f3) ((rd_T31 x0 x12).f4) ((rd_T31 x0 x12).f5) ((rd_T31 x0 x12).f6)).bind fun t223 => (if (t221 != t223) = true then (some false) else (silhouettelaw12_ScriptTells.l0 k x0 x5 x6 x7 x8 x9 x10 x11 (wrap64 (x12 + 1)))))) else (none)) else (if x5 = true then ((script_Put.f k x0).bind fun t213 => ((silhouetteref12_Put.f k x0).bind fun t216 => (if (strOfNums t213).toList = (strOfNums t216).toList then ((silhouetteref12_Same.f k x6 x9).bind fun t219 => (if t219 = true then (if x7 = x10 then (some (x8 == x11)) else (some false)) else (some false))) else (some false)))) else (some false))
end
def silhouettelaw12_ScriptTells.f (k : Nat) (l0 : List (S31)) (l1 : List Int) : Option (Bool) := (silhouettelaw12_head.f).bind fun t202 => (if (l0.length : Int) > 900 then (silhouettelaw12_ScriptTells.j0 k l0 l1 t202 true) else (silhouettelaw12_ScriptTells.j0 k l0 l1 t202 (decide ((l1.length : Int) > 9000))))
theorem silhouettelaw12_ScriptTells.mono_l : ∀ k, (∀ y0 y1 y2 y3, LeO (silhouettelaw12_ScriptTells.j0 k y0 y1 y2 y3) (silhouettelaw12_ScriptTells.j0 (k + 1) y0 y1 y2 y3)) ∧ (∀ y0 y1 y2 y3 y4 y5 y6 y7 y8, LeO (silhouettelaw12_ScriptTells.l0 k y0 y1 y2 y3 y4 y5 y6 y7 y8) (silhouettelaw12_ScriptTells.l0 (k + 1) y0 y1 y2 y3 y4 y5 y6 y7 y8))
  | 0 => ⟨fun _ _ _ _ r h => by simp [silhouettelaw12_ScriptTells.j0] at h, fun _ _ _ _ _ _ _ _ _ r h => by simp [silhouettelaw12_ScriptTells.l0] at h⟩
  | k + 1 => by
    obtain ⟨ih0, ih1⟩ := silhouettelaw12_ScriptTells.mono_l k
    refine ⟨?_, ?_⟩
    · intro y0 y1 y2 y3
      unfold silhouettelaw12_ScriptTells.j0
      repeat' first
      | (with_reducible exact ih0 _ _ _ _)
      | (with_reducible exact ih1 _ _ _ _ _ _ _ _ _)
      | (with_reducible exact script_Get.mono _ _)
      | (with_reducible exact script_Put.mono _ _)
      | (with_reducible exact silhouetteref12_Get.mono _ _)
      | (with_reducible exact silhouetteref12_Put.mono _ _)
      | (with_reducible exact silhouetteref12_Same.mono _ _ _)
      | (with_reducible exact LeO.refl _)
      | (with_reducible exact LeO.none _)
      | (with_reducible refine LeO.ite ?_ ?_)
      | (with_reducible refine LeO.bind ?_ (fun _ => ?_))
      | exact ih0 _ _ _ _
      | exact ih1 _ _ _ _ _ _ _ _ _
      | exact script_Get.mono _ _
      | exact script_Put.mono _ _
      | exact silhouetteref12_Get.mono _ _
      | exact silhouetteref12_Put.mono _ _
      | exact silhouetteref12_Same.mono _ _ _
      | exact LeO.none _
      | refine LeO.ite ?_ ?_
      | refine LeO.bind ?_ (fun _ => ?_)
    · intro y0 y1 y2 y3 y4 y5 y6 y7 y8
      unfold silhouettelaw12_ScriptTells.l0
      repeat' first
      | (with_reducible exact ih0 _ _ _ _)
      | (with_reducible exact ih1 _ _ _ _ _ _ _ _ _)
      | (with_reducible exact script_Get.mono _ _)
      | (with_reducible exact script_Put.mono _ _)
      | (with_reducible exact silhouetteref12_Get.mono _ _)
      | (with_reducible exact silhouetteref12_Put.mono _ _)
      | (with_reducible exact silhouetteref12_Same.mono _ _ _)
      | (with_reducible exact LeO.refl _)
      | (with_reducible exact LeO.none _)
      | (with_reducible refine LeO.ite ?_ ?_)
      | (with_reducible refine LeO.bind ?_ (fun _ => ?_))
      | exact ih0 _ _ _ _
      | exact ih1 _ _ _ _ _ _ _ _ _
      | exact script_Get.mono _ _
      | exact script_Put.mono _ _
      | exact silhouetteref12_Get.mono _ _
      | exact silhouetteref12_Put.mono _ _
      | exact silhouetteref12_Same.mono _ _ _
      | exact LeO.none _
      | refine LeO.ite ?_ ?_
      | refine LeO.bind ?_ (fun _ => ?_)
theorem silhouettelaw12_ScriptTells.mono : ∀ a0 a1 k, LeO (silhouettelaw12_ScriptTells.f k a0 a1) (silhouettelaw12_ScriptTells.f (k + 1) a0 a1) := by
  intro a0 a1 k
  obtain ⟨ih0, ih1⟩ := silhouettelaw12_ScriptTells.mono_l k
  unfold silhouettelaw12_ScriptTells.f
  repeat' first
      | (with_reducible exact ih0 _ _ _ _)
      | (with_reducible exact ih1 _ _ _ _ _ _ _ _ _)
      | (with_reducible exact script_Get.mono _ _)
      | (with_reducible exact script_Put.mono _ _)
      | (with_reducible exact silhouetteref12_Get.mono _ _)
      | (with_reducible exact silhouetteref12_Put.mono _ _)
      | (with_reducible exact silhouetteref12_Same.mono _ _ _)
      | (with_reducible exact LeO.refl _)
      | (with_reducible exact LeO.none _)
      | (with_reducible refine LeO.ite ?_ ?_)
      | (with_reducible refine LeO.bind ?_ (fun _ => ?_))
      | exact ih0 _ _ _ _
      | exact ih1 _ _ _ _ _ _ _ _ _
      | exact script_Get.mono _ _
      | exact script_Put.mono _ _
      | exact silhouetteref12_Get.mono _ _
      | exact silhouetteref12_Put.mono _ _
      | exact silhouetteref12_Same.mono _ _ _
      | exact LeO.none _
      | refine LeO.ite ?_ ?_
      | refine LeO.bind ?_ (fun _ => ?_)
def silhouettelaw12_ScriptTells.T9 : Bool × List (List Nat × List Nat) := (true, [([], []), ([], []), ([0, 1], [0, 1]), ([2], [2]), ([3], [3]), ([], []), ([], []), ([5, 6], [5, 6]), ([7], [7]), ([8, 4], [8]), ([4, 9], [4, 9])])
def silhouettelaw12_ScriptTells.B9 : List Nat := [0, 0, 3, 7, 15, 0, 0, 96, 224, 511, 1023]
theorem silhouettelaw12_ScriptTells.tab9 : rtab .any (opsOf Try.f3 9) = silhouettelaw12_ScriptTells.T9 := by kernel_rfl
theorem silhouettelaw12_ScriptTells.bits9 : waitsOk silhouettelaw12_ScriptTells.T9.2 silhouettelaw12_ScriptTells.B9 = true := by kernel_rfl
def silhouettelaw12_ScriptTells.T11 : Bool × List (List Nat × List Nat) := (true, [([], []), ([0], [0]), ([1], [1]), ([2, 1, 1], [1, 2]), ([3, 1], [1, 3]), ([1], [1]), ([5, 3, 1], [1, 5]), ([6, 1], [1, 6]), ([4, 7, 1], [1, 4, 7]), ([1, 8], [1, 8]), ([9, 6], [9]), ([10], [10]), ([10], [10]), ([11, 12, 10, 10], [10, 11, 12]), ([10, 13], [10, 13]), ([14, 13], [14]), ([15], [15]), ([15], [15]), ([16, 17, 15], [15, 16, 17]), ([15, 18], [15, 18]), ([19, 15], [19]), ([20], [20]), ([20], [20]), ([21, 22, 20], [20, 21, 22]), ([20, 23], [20, 23]), ([24, 20, 0, 1, 2, 3, 4, 5, 6, 7, 8, 9, 10, 11, 12, 13, 14, 15, 16, 17, 18, 19, 20, 21, 22, 23, 24], [24])])
def silhouettelaw12_ScriptTells.B11 : List Nat := [0, 1, 3, 7, 15, 3, 47, 111, 255, 511, 1023, 2047, 2047, 8191, 16383, 32767, 65535, 65535, 262143, 524287, 1048575, 2097151, 2097151, 8388607, 16777215, 33554431]
theorem silhouettelaw12_ScriptTells.tab11 : rtab .any (opsOf Try.f3 11) = silhouettelaw12_ScriptTells.T11 := by kernel_rfl
theorem silhouettelaw12_ScriptTells.bits11 : waitsOk silhouettelaw12_ScriptTells.T11.2 silhouettelaw12_ScriptTells.B11 = true := by kernel_rfl
set_option maxHeartbeats 8000000 in
set_option maxRecDepth 100000 in
theorem silhouettelaw12_ScriptTells.calls (k : Nat) (A0 : Option Addr) (c0 : Nat) (l0 : List (S31)) (A1 : Option Addr) (c1 : Nat) (l1 : List Int) (r : Bool) (hr : r = true) (w : World) (hr0 : Kd.C k31 w A0 l0.length l0) (hc0 : l0.length ≤ c0) (hr1 : Kd.C (Kd.int .u8) w A1 l1.length l1) (hc1 : l1.length ≤ c1) (h : silhouettelaw12_ScriptTells.f k l0 l1 = some r) :
    Calls Try.prog 3 #[.slice A0 l0.length c0, .slice A1 l1.length c1] w fun e w' => e = .returned (.bool r) ∧ Below w.heap.size w w' := by
  have hu31 := Try.underlying31
  have HR0 := Aside0.mk hr0
  have HC0 := Aside0.mk hc0
  clear hr0 hc0
  have HR1 := Aside0.mk hr1
  have HC1 := Aside0.mk hc1
  clear hr1 hc1
  have HB := Aside0.mk (Below.refl w.heap.size w)
  have H : ((silhouettelaw12_head.f).bind fun t202 => (if (l0.length : Int) > 900 then (silhouettelaw12_ScriptTells.j0 k l0 l1 t202 true) else (silhouettelaw12_ScriptTells.j0 k l0 l1 t202 (decide ((l1.length : Int) > 9000))))) = some r := h
  clear h
  replace H := Option.bind_eq_some_iff.mp H
  obtain ⟨t202, A30, H⟩ := H
  replace H : (if (l0.length : Int) > 900 then (silhouettelaw12_ScriptTells.j0 k l0 l1 t202 true) else (silhouettelaw12_ScriptTells.j0 k l0 l1 t202 (decide ((l1.length : Int) > 9000)))) = some r := H
  have A3 := Aside0.mk A30
  clear A30
  have HC4 := Aside0.mk H
  clear H
  go_enter Try.func3, Try.ntmps3
  go_upto_region 2 with (first | ((with_reducible refine gate_callee (f := 10) rfl ?_); refine goesL_ (some 13) rfl rfl Try.func10 (by kernel_rfl) rfl #[] rfl (by (try simp only [List.map_toArray, List.map_cons, List.map_nil]); first | done | rfl | (simp only [List.length_drop, List.length_take]; rfl)) ?_; (with_reducible refine (silhouettelaw12_head.calls  t202 _ A3.out).mono ?_); rintro e w5 ⟨rfl, hb⟩; refine ⟨_, rfl, ?_⟩; have n0_ := Aside0.mk (below_step (by repeat (first | (with_reducible first | exact HB.out | apply below_alloc | apply pw_below_drewN | apply below_drew1) | exact HB.out)) hb); clear HB; have HB := n0_; clear n0_; (try clear hb); (try clear hb2); (try clear hk); (try clear hi)))
  (try simp only [Act.put, List.setIfInBounds_toArray, List.set_cons_zero, List.set_cons_succ])
  go_cut [21] (fun v21 wc => ∃ (kq : Nat) (x21_3 : Bool), v21 = .bool x21_3 ∧ Aside0 (silhouettelaw12_ScriptTells.j0 kq l0 l1 t202 x21_3 = some r) ∧ Aside0 (kq ≤ k) ∧ Aside0 (Below w.heap.size w wc))
  case first =>
    have H := HC4.out
    clear HC4
    by_cases c6 : (l0.length : Int) > 900
    · rw [if_pos c6] at H
      have c6b0 : decide (900 < (l0.length : Int)) = true := decide_eq_true c6
      have c6b1 : decide (900 < l0.length) = true := decide_eq_true (by omega)
      clear c6
      (first | rw [c6b0] | (simp only [i64_w, i32_w]; rw [c6b0]) | skip)
      have H' := Aside0.mk H
      clear H
      go_wp2
      go_meet
      case rel => exact ⟨_, (true), (by first | rfl | (simp; done) | (simp [*]; done)), H', ⟨by first | omega | exact Nat.le_refl _⟩, ⟨by repeat (first | (with_reducible first | exact HB.out | apply below_alloc | apply pw_below_drewN | apply below_drew1) | exact HB.out)⟩⟩
    · rw [if_neg c6] at H
      have c6b0 : decide (900 < (l0.length : Int)) = false := decide_eq_false c6
      have c6b1 : decide (900 < l0.length) = false := decide_eq_false (by omega)
      clear c6
      (first | rw [c6b0] | (simp only [i64_w, i32_w]; rw [c6b0]) | skip)
      have H' := Aside0.mk H
      clear H
      go_wp2
      go_meet
      case rel => exact ⟨_, (decide ((l1.length : Int) > 9000)), (by first | rfl | (simp; done) | (simp [*]; done)), H', ⟨by first | omega | exact Nat.le_refl _⟩, ⟨by repeat (first | (with_reducible first | exact HB.out | apply below_alloc | apply pw_below_drewN | apply below_drew1) | exact HB.out)⟩⟩
  case rest =>
    clear HC4
    try clear c1
    try clear p2
    try clear c3
    try clear c6
    try clear c6b0
    try clear c6b1
    obtain ⟨kq, x21_3, rfl, HA, HJ3, HB⟩ := hcut
    cases kq with
    | zero => exact absurd HA.out (by simp [silhouettelaw12_ScriptTells.j0])
    | succ kj3 =>
      have H := HA.out
      clear HA
      simp only [silhouettelaw12_ScriptTells.j0] at H
      by_cases c7 : x21_3 = true
      · subst c7
        have H1 : (some t202) = some r := by rw [if_pos rfl] at H; exact H
        clear H
        have H := H1
        clear H1
        obtain rfl := Option.some.inj H
        go_wp2
        go_ret
        exact ⟨by first | rfl | (simp [errW_none, errW_some] <;> rfl) | (simp [*, errW_none, errW_some] <;> rfl), by repeat (first | (with_reducible first | exact HB.out | apply below_alloc | apply pw_below_drewN | apply below_drew1) | exact HB.out)⟩
      · replace c7 := Bool.eq_false_iff.mpr c7
        subst c7
        have H1 : ((script_Get.f kj3 l1).bind fun bt203 => ((silhouetteref12_Get.f kj3 l1).bind fun bt208 => (silhouettelaw12_ScriptTells.l0 kj3 l0 t202 bt203.1 bt203.2.1 bt203.2.2 bt208.1 bt208.2.1 bt208.2.2 0))) = some r := by rw [if_neg (show ¬ (false = true) by decide)] at H; exact H
        clear H
        have H := H1
        clear H1
        replace H := Option.bind_eq_some_iff.mp H
        obtain ⟨⟨t203, t204, t205⟩, A80, H⟩ := H
        replace H : ((silhouetteref12_Get.f kj3 l1).bind fun bt208 => (silhouettelaw12_ScriptTells.l0 kj3 l0 t202 t203 t204 t205 bt208.1 bt208.2.1 bt208.2.2 0)) = some r := H
        have A8 := Aside0.mk A80
        clear A80
        replace H := Option.bind_eq_some_iff.mp H
        obtain ⟨⟨t208, t209, t210⟩, A90, H⟩ := H
        replace H : (silhouettelaw12_ScriptTells.l0 kj3 l0 t202 t203 t204 t205 t208 t209 t210 0) = some r := H
        have A9 := Aside0.mk A90
        clear A90
        have H' := Aside0.mk H
        clear H
        go_wp2_with (first | ((with_reducible refine gate_callee (f := 11) rfl ?_); refine goesL_ (some 25) rfl rfl Try.func11 (by kernel_rfl) rfl #[.slice A1 l1.length c1] rfl (by (try simp only [List.map_toArray, List.map_cons, List.map_nil]); first | done | rfl | (simp only [List.length_drop, List.length_take]; rfl)) ?_; (with_reducible refine (script_Get.calls kj3 _ _ l1 t203 t204 t205 _ ?side1 ?side2 A8.out).mono ?_); (case side1 => repeat (first | exact (Kd.C_below HR1.out HB.out) | (with_reducible refine Kd.C_alloc ?_ _) | (with_reducible refine Kd.C_drewN ?_ _) | (with_reducible refine Kd.C_drew ?_))); (case side2 => exact HC1.out); rintro e w10 ⟨v206, rfl, ho0, hb⟩; refine ⟨_, rfl, ?_⟩; have n0_ := Aside0.mk (Kd.R_lower ho0 (below_size (by repeat (first | (with_reducible first | exact HB.out | apply below_alloc | apply pw_below_drewN | apply below_drew1) | exact HB.out)))); have n1_ := Aside0.mk (below_step (by repeat (first | (with_reducible first | exact HB.out | apply below_alloc | apply pw_below_drewN | apply below_drew1) | exact HB.out)) hb); clear HB; have HO207 := n0_; have HB := n1_; clear n0_ n1_; (try clear hb); (try clear hb2); (try clear hk); (try clear hi); (try clear ho0)) | ((with_reducible refine gate_callee (f := 12) rfl ?_); refine goesL_ (some 31) rfl rfl Try.func12 (by kernel_rfl) rfl #[.slice A1 l1.length c1] rfl (by (try simp only [List.map_toArray, List.map_cons, List.map_nil]); first | done | rfl | (simp only [List.length_drop, List.length_take]; rfl)) ?_; (with_reducible refine (silhouetteref12_Get.calls kj3 _ _ l1 t208 t209 t210 _ ?side1 ?side2 A9.out).mono ?_); (case side1 => repeat (first | exact (Kd.C_below HR1.out HB.out) | (with_reducible refine Kd.C_alloc ?_ _) | (with_reducible refine Kd.C_drewN ?_ _) | (with_reducible refine Kd.C_drew ?_))); (case side2 => exact HC1.out); rintro e w11 ⟨v211, rfl, ho0, hb⟩; refine ⟨_, rfl, ?_⟩; have n0_ := Aside0.mk (Kd.R_elder' (by (with_reducible repeat (first | apply Kd.R_alloc | apply Kd.R_drewN | apply Kd.R_drew)); exact HO207.out) (Kd.R_base ho0) hb); have n1_ := Aside0.mk (Kd.R_lower (Kd.R_new' ho0 (Kd.R_lt (by (with_reducible repeat (first | apply Kd.R_alloc | apply Kd.R_drewN | apply Kd.R_drew)); exact HO207.out))) (below_size (by repeat (first | (with_reducible first | exact HB.out | apply below_alloc | apply pw_below_drewN | apply below_drew1) | exact HB.out)))); have n2_ := Aside0.mk (below_step (by repeat (first | (with_reducible first | exact HB.out | apply below_alloc | apply pw_below_drewN | apply below_drew1) | exact HB.out)) hb); clear HO207; clear HB; have HO207 := n0_; have HO212 := n1_; have HB := n2_; clear n0_ n1_ n2_; (try clear hb); (try clear hb2); (try clear hk); (try clear hi); (try clear ho0)))
        go_loopg [12] kj3 (fun kq v12 w' => ∃ (x12_2 : Int), v12 = .int .i64 x12_2 ∧ Aside0 (silhouettelaw12_ScriptTells.l0 kq l0 t202 t203 t204 t205 t208 t209 t210 x12_2 = some r) ∧ Aside0 (kq ≤ kj3) ∧ Aside0 (Kd.R k31 31 w' w.heap.size (fun k_ => some k_ ≠ (v211 : Value).ownBlock) v206 t203) ∧ Aside0 (Kd.R k31 31 w' w.heap.size (fun k_ => some k_ ≠ (v206 : Value).ownBlock) v211 t208) ∧ Aside0 (Below w.heap.size w w'))
        case atStart => exact ⟨(0), (by first | rfl | (simp; done) | (simp [*]; done)), H', ⟨Nat.le_refl _⟩, ⟨by (with_reducible repeat (first | apply Kd.R_alloc | apply Kd.R_drewN | apply Kd.R_drew)); exact Kd.R_mono HO207.out (fun _ hk => hk.2)⟩, ⟨by (with_reducible repeat (first | apply Kd.R_alloc | apply Kd.R_drewN | apply Kd.R_drew)); exact Kd.R_mono HO212.out (fun _ hk => hk.2)⟩, ⟨by repeat (first | (with_reducible first | exact HB.out | apply below_alloc | apply pw_below_drewN | apply below_drew1) | exact HB.out)⟩⟩
        case round =>
          clear H'
          try clear c1
          try clear p2
          try clear c3
          try clear c6
          try clear c6b0
          try clear c6b1
          try clear c7
          try clear c10
          try clear c11
          try clear p2
          obtain ⟨x12_2, rfl, HA, HK2, HO_6, HO_9, HB⟩ := hrel
          cases gk with
          | zero => exact absurd HA.out (by simp [silhouettelaw12_ScriptTells.l0])
          | succ k2 =>
            have H := HA.out
            clear HA
            simp only [silhouettelaw12_ScriptTells.l0] at H
            by_cases c12 : x12_2 < (l0.length : Int)
            · rw [if_pos c12] at H
              have c12b0 : decide (x12_2 < (l0.length : Int)) = true := decide_eq_true c12
              clear c12
              by_cases c13 : 0 ≤ x12_2
              · rw [if_pos c13] at H
                have c13b0 : decide (0 ≤ x12_2) = true := decide_eq_true c13
                clear c13
                replace H := Option.bind_eq_some_iff.mp H
                obtain ⟨t221, A140, H⟩ := H
                replace H : ((silhouetteref12_Right.f ((rd_T31 l0 x12_2).f0) ((rd_T31 l0 x12_2).f1) ((rd_T31 l0 x12_2).f2) ((rd_T31 l0 x12_2).f3) ((rd_T31 l0 x12_2).f4) ((rd_T31 l0 x12_2).f5) ((rd_T31 l0 x12_2).f6)).bind fun t223 => (if (t221 != t223) = true then (some false) else (silhouettelaw12_ScriptTells.l0 k2 l0 t202 t203 t204 t205 t208 t209 t210 (wrap64 (x12_2 + 1))))) = some r := H
                have A14 := Aside0.mk A140
                clear A140
                replace H := Option.bind_eq_some_iff.mp H
                obtain ⟨t223, A150, H⟩ := H
                replace H : (if (t221 != t223) = true then (some false) else (silhouettelaw12_ScriptTells.l0 k2 l0 t202 t203 t204 t205 t208 t209 t210 (wrap64 (x12_2 + 1)))) = some r := H
                have A15 := Aside0.mk A150
                clear A150
                by_cases c16 : (t221 != t223) = true
                · rw [if_pos c16] at H
                  have c16b0 : (t221 != t223) = true := c16
                  (try (have c16b1 : decide (t221 = t223) = false := by simpa using c16))
                  (try (have c16b2 : (t221 == t223) = false := by simpa using c16))
                  (try (have c16b3 : ¬ (t221 = t223) := by simpa using c16))
                  clear c16
                  obtain rfl := Option.some.inj H
                  try go_wp2
                  have n0_ := Aside0.mk (Kd.R_drew HO_6.out)
                  have n1_ := Aside0.mk (Kd.R_drew HO_9.out)
                  have n2_ := Aside0.mk (below_drew1 HB.out)
                  clear HO_6
                  clear HO_9
                  clear HB
                  have HO_6 := n0_
                  have HO_9 := n1_
                  have HB := n2_
                  clear n0_ n1_ n2_
                  have p220 : 0 ≤ (x12_2 : Int) := of_decide_eq_true (by first | (with_reducible assumption) | assumption)
                  have q220 : x12_2 < (l0.length : Int) := of_decide_eq_true (by first | (with_reducible assumption) | assumption)
                  obtain ⟨ad220, e220, hx220_0, hx220_1, hx220_2, hx220_3, hx220_4, hx220_5, hx220_6⟩ := at_T31 HR0.out x12_2 p220 q220
                  have hw220_6 := hx220_6
                  have hw220_5 := hx220_5
                  have hw220_4 := hx220_4
                  have hw220_3 := hx220_3
                  have hw220_2 := hx220_2
                  have hw220_1 := hx220_1
                  have hw220_0 := hx220_0
                  cases e220
                  replace hx220_0 := (HB.out.cell (World.block_lt_of_cell? w _ hx220_0)).trans hx220_0
                  replace hx220_1 := (HB.out.cell (World.block_lt_of_cell? w _ hx220_1)).trans hx220_1
                  replace hx220_2 := (HB.out.cell (World.block_lt_of_cell? w _ hx220_2)).trans hx220_2
                  replace hx220_3 := (HB.out.cell (World.block_lt_of_cell? w _ hx220_3)).trans hx220_3
                  replace hx220_4 := (HB.out.cell (World.block_lt_of_cell? w _ hx220_4)).trans hx220_4
                  replace hx220_5 := (HB.out.cell (World.block_lt_of_cell? w _ hx220_5)).trans hx220_5
                  replace hx220_6 := (HB.out.cell (World.block_lt_of_cell? w _ hx220_6)).trans hx220_6
                  replace p220 := eq_true p220
                  replace q220 := eq_true q220
                  have p222 : 0 ≤ (x12_2 : Int) := of_decide_eq_true (by first | (with_reducible assumption) | assumption)
                  have q222 : x12_2 < (l0.length : Int) := of_decide_eq_true (by first | (with_reducible assumption) | assumption)
                  obtain ⟨ad222, e222, hx222_0, hx222_1, hx222_2, hx222_3, hx222_4, hx222_5, hx222_6⟩ := at_T31 HR0.out x12_2 p222 q222
                  have hw222_6 := hx222_6
                  have hw222_5 := hx222_5
                  have hw222_4 := hx222_4
                  have hw222_3 := hx222_3
                  have hw222_2 := hx222_2
                  have hw222_1 := hx222_1
                  have hw222_0 := hx222_0
                  obtain rfl : ad220 = ad222 := (by injection e222)
                  replace hx222_0 := (HB.out.cell (World.block_lt_of_cell? w _ hx222_0)).trans hx222_0
                  replace hx222_1 := (HB.out.cell (World.block_lt_of_cell? w _ hx222_1)).trans hx222_1
                  replace hx222_2 := (HB.out.cell (World.block_lt_of_cell? w _ hx222_2)).trans hx222_2
                  replace hx222_3 := (HB.out.cell (World.block_lt_of_cell? w _ hx222_3)).trans hx222_3
                  replace hx222_4 := (HB.out.cell (World.block_lt_of_cell? w _ hx222_4)).trans hx222_4
                  replace hx222_5 := (HB.out.cell (World.block_lt_of_cell? w _ hx222_5)).trans hx222_5
                  replace hx222_6 := (HB.out.cell (World.block_lt_of_cell? w _ hx222_6)).trans hx222_6
                  replace p222 := eq_true p222
                  replace q222 := eq_true q222
                  refine start_ (n := 11) (S := fun w' => w'.cell? (ad220.add ((x12_2).toNat * 7)) = some (.int .i64 ((rd_T31 l0 x12_2).f0)) ∧ w'.cell? ⟨(ad220.add ((x12_2).toNat * 7)).block, (ad220.add ((x12_2).toNat * 7)).off + 1, none⟩ = some (.bool ((rd_T31 l0 x12_2).f1)) ∧ w'.cell? ⟨(ad220.add ((x12_2).toNat * 7)).block, (ad220.add ((x12_2).toNat * 7)).off + 2, none⟩ = some (.int .u64 ((rd_T31 l0 x12_2).f2)) ∧ w'.cell? ⟨(ad220.add ((x12_2).toNat * 7)).block, (ad220.add ((x12_2).toNat * 7)).off + 3, none⟩ = some (.int .u64 ((rd_T31 l0 x12_2).f3)) ∧ w'.cell? ⟨(ad220.add ((x12_2).toNat * 7)).block, (ad220.add ((x12_2).toNat * 7)).off + 4, none⟩ = some (.int .i64 ((rd_T31 l0 x12_2).f4)) ∧ w'.cell? ⟨(ad220.add ((x12_2).toNat * 7)).block, (ad220.add ((x12_2).toNat * 7)).off + 5, none⟩ = some (.int .i64 ((rd_T31 l0 x12_2).f5)) ∧ w'.cell? ⟨(ad220.add ((x12_2).toNat * 7)).block, (ad220.add ((x12_2).toNat * 7)).off + 6, none⟩ = some (.int .i64 ((rd_T31 l0 x12_2).f6)) ∧ w'.cell? (ad220.add ((x12_2).toNat * 7)) = some (.int .i64 ((rd_T31 l0 x12_2).f0)) ∧ w'.cell? ⟨(ad220.add ((x12_2).toNat * 7)).block, (ad220.add ((x12_2).toNat * 7)).off + 1, none⟩ = some (.bool ((rd_T31 l0 x12_2).f1)) ∧ w'.cell? ⟨(ad220.add ((x12_2).toNat * 7)).block, (ad220.add ((x12_2).toNat * 7)).off + 2, none⟩ = some (.int .u64 ((rd_T31 l0 x12_2).f2)) ∧ w'.cell? ⟨(ad220.add ((x12_2).toNat * 7)).block, (ad220.add ((x12_2).toNat * 7)).off + 3, none⟩ = some (.int .u64 ((rd_T31 l0 x12_2).f3)) ∧ w'.cell? ⟨(ad220.add ((x12_2).toNat * 7)).block, (ad220.add ((x12_2).toNat * 7)).off + 4, none⟩ = some (.int .i64 ((rd_T31 l0 x12_2).f4)) ∧ w'.cell? ⟨(ad220.add ((x12_2).toNat * 7)).block, (ad220.add ((x12_2).toNat * 7)).off + 5, none⟩ = some (.int .i64 ((rd_T31 l0 x12_2).f5)) ∧ w'.cell? ⟨(ad220.add ((x12_2).toNat * 7)).block, (ad220.add ((x12_2).toNat * 7)).off + 6, none⟩ = some (.int .i64 ((rd_T31 l0 x12_2).f6))) (ds := []) #[false, false, false, false, false, false, false, false, false, false, false] (by kernel_rfl) rfl rfl ⟨((HB.out.cell (World.block_lt_of_cell? w _ hw220_0)).trans hw220_0), ((HB.out.cell (World.block_lt_of_cell? w _ hw220_1)).trans hw220_1), ((HB.out.cell (World.block_lt_of_cell? w _ hw220_2)).trans hw220_2), ((HB.out.cell (World.block_lt_of_cell? w _ hw220_3)).trans hw220_3), ((HB.out.cell (World.block_lt_of_cell? w _ hw220_4)).trans hw220_4), ((HB.out.cell (World.block_lt_of_cell? w _ hw220_5)).trans hw220_5), ((HB.out.cell (World.block_lt_of_cell? w _ hw220_6)).trans hw220_6), ((HB.out.cell (World.block_lt_of_cell? w _ hw222_0)).trans hw222_0), ((HB.out.cell (World.block_lt_of_cell? w _ hw222_1)).trans hw222_1), ((HB.out.cell (World.block_lt_of_cell? w _ hw222_2)).trans hw222_2), ((HB.out.cell (World.block_lt_of_cell? w _ hw222_3)).trans hw222_3), ((HB.out.cell (World.block_lt_of_cell? w _ hw222_4)).trans hw222_4), ((HB.out.cell (World.block_lt_of_cell? w _ hw222_5)).trans hw222_5), ((HB.out.cell (World.block_lt_of_cell? w _ hw222_6)).trans hw222_6)⟩ (fun hHeld => ?_); refine with_tabW silhouettelaw12_ScriptTells.tab9 silhouettelaw12_ScriptTells.bits9 (fun HT_ HW_ => ?_)
                  generalize wr.drew = w17 at HO_6 HO_9 HB hx220_0 hx220_1 hx220_2 hx220_3 hx220_4 hx220_5 hx220_6 hx222_0 hx222_1 hx222_2 hx222_3 hx222_4 hx222_5 hx222_6 hHeld ⊢
                  refine pure_ (i := 0) (N := some 41) (v := ?_) (a' := ?_) #[true, false, false, false, false, false, false, false, false, false, false] rfl rfl (any_of HT_.out (by kernel_rfl)) (fun _ _ _ h => h) (Or.inl ⟨by rfl, ?_⟩) ?_ ?_
                  rotate_left
                  · intro w'
                    go_simp
                    with_reducible rfl
                  rotate_left
                  · simp only [Act.put, List.setIfInBounds_toArray, List.set_cons_zero, List.set_cons_succ, i64_w, i32_w]
                    rfl
                  refine pure_ (i := 1) (N := some 42) (v := ?_) (a' := ?_) #[true, true, false, false, false, false, false, false, false, false, false] rfl rfl (any_of HT_.out (by kernel_rfl)) (fun _ _ _ h => h) (Or.inl ⟨by rfl, ?_⟩) ?_ ?_
                  rotate_left
                  · intro w'
                    go_simp
                    with_reducible rfl
                  rotate_left
                  · simp only [Act.put, List.setIfInBounds_toArray, List.set_cons_zero, List.set_cons_succ, i64_w, i32_w]
                    rfl
                  refine pure_ (i := 2) (N := some 43) (v := ?_) (a' := ?_) #[true, true, true, false, false, false, false, false, false, false, false] rfl rfl (any_of HT_.out (by kernel_rfl)) (fun _ _ _ h => h) (Or.inl ⟨by rfl, ?_⟩) ?_ ?_
                  rotate_left
                  · intro w'
                    go_simp
                    with_reducible rfl
                  rotate_left
                  · simp only [Act.put, List.setIfInBounds_toArray, List.set_cons_zero, List.set_cons_succ, i64_w, i32_w]
                    rfl
                  refine pure_ (i := 5) (N := some 46) (v := ?_) (a' := ?_) #[true, true, true, false, false, true, false, false, false, false, false] rfl rfl (any_of HT_.out (by kernel_rfl)) (fun _ _ _ h => h) (Or.inl ⟨by rfl, ?_⟩) ?_ ?_
                  rotate_left
                  · intro w'
                    go_simp
                    with_reducible rfl
                  rotate_left
                  · simp only [Act.put, List.setIfInBounds_toArray, List.set_cons_zero, List.set_cons_succ, i64_w, i32_w]
                    rfl
                  refine pure_ (i := 6) (N := some 47) (v := ?_) (a' := ?_) #[true, true, true, false, false, true, true, false, false, false, false] rfl rfl (any_of HT_.out (by kernel_rfl)) (fun _ _ _ h => h) (Or.inl ⟨by rfl, ?_⟩) ?_ ?_
                  rotate_left
                  · intro w'
                    go_simp
                    with_reducible rfl
                  rotate_left
                  · simp only [Act.put, List.setIfInBounds_toArray, List.set_cons_zero, List.set_cons_succ, i64_w, i32_w]
                    rfl
                  refine pure_ (i := 7) (N := some 48) (v := ?_) (a' := ?_) #[true, true, true, false, false, true, true, true, false, false, false] rfl rfl (any_of HT_.out (by kernel_rfl)) (fun _ _ _ h => h) (Or.inl ⟨by rfl, ?_⟩) ?_ ?_
                  rotate_left
                  · intro w'
                    go_simp
                    with_reducible rfl
                  rotate_left
                  · simp only [Act.put, List.setIfInBounds_toArray, List.set_cons_zero, List.set_cons_succ, i64_w, i32_w]
                    rfl
                  refine take_ (i := 3) (N := some 44) (v := ?_) (a' := ?_) #[true, true, true, true, false, true, true, true, false, false, false] rfl rfl (take_ofW HT_.out HW_.out (by kernel_rfl)) (fun _ _ _ h => h) (Or.inl ⟨by rfl, ?_⟩) hHeld ?_ ?_
                  rotate_left
                  · rintro w' ⟨s0, s1, s2, s3, s4, s5, s6, s7, s8, s9, s10, s11, s12, s13⟩
                    go_simp
                    with_reducible rfl
                  rotate_left
                  · simp only [Act.put, List.setIfInBounds_toArray, List.set_cons_zero, List.set_cons_succ, i64_w, i32_w]
                    rfl
                  refine take_ (i := 8) (N := some 49) (v := ?_) (a' := ?_) #[true, true, true, true, false, true, true, true, true, false, false] rfl rfl (take_ofW HT_.out HW_.out (by kernel_rfl)) (fun _ _ _ h => h) (Or.inl ⟨by rfl, ?_⟩) hHeld ?_ ?_
                  rotate_left
                  · rintro w' ⟨s0, s1, s2, s3, s4, s5, s6, s7, s8, s9, s10, s11, s12, s13⟩
                    go_simp
                    with_reducible rfl
                  rotate_left
                  · simp only [Act.put, List.setIfInBounds_toArray, List.set_cons_zero, List.set_cons_succ, i64_w, i32_w]
                    rfl
                  refine one_ (i := 4) (N := some 45) #[true, true, true, true, true, true, true, true, true, false, false] rfl rfl (one_of HT_.out (by kernel_rfl)) (by decide) (fun K hK => ?_)
                  refine goes_ Try.func13 (by kernel_rfl) rfl #[.agg #[.int .i64 ((rd_T31 l0 x12_2).f0), .bool ((rd_T31 l0 x12_2).f1), .int .u64 ((rd_T31 l0 x12_2).f2), .int .u64 ((rd_T31 l0 x12_2).f3), .int .i64 ((rd_T31 l0 x12_2).f4), .int .i64 ((rd_T31 l0 x12_2).f5), .int .i64 ((rd_T31 l0 x12_2).f6)]] (by rfl) rfl rfl (by (try simp only [List.map_toArray, List.map_cons, List.map_nil]); first | done | rfl | (simp only [List.length_drop, List.length_take]; rfl)) ?_
                  with_reducible refine (script_Right.calls ((rd_T31 l0 x12_2).f0) ((rd_T31 l0 x12_2).f1) ((rd_T31 l0 x12_2).f2) ((rd_T31 l0 x12_2).f3) ((rd_T31 l0 x12_2).f4) ((rd_T31 l0 x12_2).f5) ((rd_T31 l0 x12_2).f6) t221 _ A14.out).mono ?_
                  rintro e w18 ⟨rfl, hb⟩
                  refine ⟨_, rfl, ?_⟩
                  have n0_ := Aside0.mk (Kd.R_below (by (with_reducible repeat (first | apply Kd.R_alloc | apply Kd.R_drewN | apply Kd.R_drew)); exact HO_6.out) hb)
                  have n1_ := Aside0.mk (Kd.R_below (by (with_reducible repeat (first | apply Kd.R_alloc | apply Kd.R_drewN | apply Kd.R_drew)); exact HO_9.out) hb)
                  have n2_ := Aside0.mk (below_step (by repeat (first | (with_reducible first | exact HB.out | apply below_alloc | apply pw_below_drewN | apply below_drew1) | exact HB.out)) hb)
                  clear HO_6
                  clear HO_9
                  clear HB
                  have HO_6 := n0_
                  have HO_9 := n1_
                  have HB := n2_
                  clear n0_ n1_ n2_
                  (try clear hb)
                  (try clear hb2)
                  (try clear hk)
                  (try clear hi)
                  refine hK.out _ _ ⟨((HB.out.cell (World.block_lt_of_cell? w _ hw220_0)).trans hw220_0), ((HB.out.cell (World.block_lt_of_cell? w _ hw220_1)).trans hw220_1), ((HB.out.cell (World.block_lt_of_cell? w _ hw220_2)).trans hw220_2), ((HB.out.cell (World.block_lt_of_cell? w _ hw220_3)).trans hw220_3), ((HB.out.cell (World.block_lt_of_cell? w _ hw220_4)).trans hw220_4), ((HB.out.cell (World.block_lt_of_cell? w _ hw220_5)).trans hw220_5), ((HB.out.cell (World.block_lt_of_cell? w _ hw220_6)).trans hw220_6), ((HB.out.cell (World.block_lt_of_cell? w _ hw222_0)).trans hw222_0), ((HB.out.cell (World.block_lt_of_cell? w _ hw222_1)).trans hw222_1), ((HB.out.cell (World.block_lt_of_cell? w _ hw222_2)).trans hw222_2), ((HB.out.cell (World.block_lt_of_cell? w _ hw222_3)).trans hw222_3), ((HB.out.cell (World.block_lt_of_cell? w _ hw222_4)).trans hw222_4), ((HB.out.cell (World.block_lt_of_cell? w _ hw222_5)).trans hw222_5), ((HB.out.cell (World.block_lt_of_cell? w _ hw222_6)).trans hw222_6)⟩ (fun hHeld => ?_)
                  clear hK K
                  refine norm_ (a' := ?_) ?_ ?_
                  rotate_left
                  · show Act.put _ (some 45) _ = _
                    simp only [Act.put, List.setIfInBounds_toArray, List.set_cons_zero, List.set_cons_succ, i64_w, i32_w]
                    rfl
                  refine one_ (i := 9) (N := some 50) #[true, true, true, true, true, true, true, true, true, true, false] rfl rfl (one_of HT_.out (by kernel_rfl)) (by decide) (fun K hK => ?_)
                  refine goes_ Try.func14 (by kernel_rfl) rfl #[.agg #[.int .i64 ((rd_T31 l0 x12_2).f0), .bool ((rd_T31 l0 x12_2).f1), .int .u64 ((rd_T31 l0 x12_2).f2), .int .u64 ((rd_T31 l0 x12_2).f3), .int .i64 ((rd_T31 l0 x12_2).f4), .int .i64 ((rd_T31 l0 x12_2).f5), .int .i64 ((rd_T31 l0 x12_2).f6)]] (by rfl) rfl rfl (by (try simp only [List.map_toArray, List.map_cons, List.map_nil]); first | done | rfl | (simp only [List.length_drop, List.length_take]; rfl)) ?_
                  with_reducible refine (silhouetteref12_Right.calls ((rd_T31 l0 x12_2).f0) ((rd_T31 l0 x12_2).f1) ((rd_T31 l0 x12_2).f2) ((rd_T31 l0 x12_2).f3) ((rd_T31 l0 x12_2).f4) ((rd_T31 l0 x12_2).f5) ((rd_T31 l0 x12_2).f6) t223 _ A15.out).mono ?_
                  rintro e w19 ⟨rfl, hb⟩
                  refine ⟨_, rfl, ?_⟩
                  have n0_ := Aside0.mk (Kd.R_below (by (with_reducible repeat (first | apply Kd.R_alloc | apply Kd.R_drewN | apply Kd.R_drew)); exact HO_6.out) hb)
                  have n1_ := Aside0.mk (Kd.R_below (by (with_reducible repeat (first | apply Kd.R_alloc | apply Kd.R_drewN | apply Kd.R_drew)); exact HO_9.out) hb)
                  have n2_ := Aside0.mk (below_step (by repeat (first | (with_reducible first | exact HB.out | apply below_alloc | apply pw_below_drewN | apply below_drew1) | exact HB.out)) hb)
                  clear HO_6
                  clear HO_9
                  clear HB
                  have HO_6 := n0_
                  have HO_9 := n1_
                  have HB := n2_
                  clear n0_ n1_ n2_
                  (try clear hb)
                  (try clear hb2)
                  (try clear hk)
                  (try clear hi)
                  refine hK.out _ _ ⟨((HB.out.cell (World.block_lt_of_cell? w _ hw220_0)).trans hw220_0), ((HB.out.cell (World.block_lt_of_cell? w _ hw220_1)).trans hw220_1), ((HB.out.cell (World.block_lt_of_cell? w _ hw220_2)).trans hw220_2), ((HB.out.cell (World.block_lt_of_cell? w _ hw220_3)).trans hw220_3), ((HB.out.cell (World.block_lt_of_cell? w _ hw220_4)).trans hw220_4), ((HB.out.cell (World.block_lt_of_cell? w _ hw220_5)).trans hw220_5), ((HB.out.cell (World.block_lt_of_cell? w _ hw220_6)).trans hw220_6), ((HB.out.cell (World.block_lt_of_cell? w _ hw222_0)).trans hw222_0), ((HB.out.cell (World.block_lt_of_cell? w _ hw222_1)).trans hw222_1), ((HB.out.cell (World.block_lt_of_cell? w _ hw222_2)).trans hw222_2), ((HB.out.cell (World.block_lt_of_cell? w _ hw222_3)).trans hw222_3), ((HB.out.cell (World.block_lt_of_cell? w _ hw222_4)).trans hw222_4), ((HB.out.cell (World.block_lt_of_cell? w _ hw222_5)).trans hw222_5), ((HB.out.cell (World.block_lt_of_cell? w _ hw222_6)).trans hw222_6)⟩ (fun hHeld => ?_)
                  clear hK K
                  refine norm_ (a' := ?_) ?_ ?_
                  rotate_left
                  · show Act.put _ (some 50) _ = _
                    simp only [Act.put, List.setIfInBounds_toArray, List.set_cons_zero, List.set_cons_succ, i64_w, i32_w]
                    rfl
                  refine pure_ (i := 10) (N := some 51) (v := ?_) (a' := ?_) #[true, true, true, true, true, true, true, true, true, true, true] rfl rfl (any_of HT_.out (by kernel_rfl)) (fun _ _ _ h => h) (Or.inl ⟨by rfl, ?_⟩) ?_ ?_
                  rotate_left
                  · intro w'
                    go_simp
                    with_reducible rfl
                  rotate_left
                  · simp only [Act.put, List.setIfInBounds_toArray, List.set_cons_zero, List.set_cons_succ, i64_w, i32_w]
                    rfl
                  refine done_ (done_of HT_.out (by kernel_rfl)) ?_
                  try go_wp2
                  go_ret
                  exact ⟨by first | rfl | (simp [errW_none, errW_some] <;> rfl) | (simp [*, errW_none, errW_some] <;> rfl), by repeat (first | (with_reducible first | exact HB.out | apply below_alloc | apply pw_below_drewN | apply below_drew1) | exact HB.out)⟩
                · rw [if_neg c16] at H
                  have c16b0 : (t221 != t223) = false := by simpa using c16
                  (try (have c16b1 : decide (t221 = t223) = true := by simpa using c16))
                  (try (have c16b2 : (t221 == t223) = true := by simpa using c16))
                  clear c16
                  have H' := Aside0.mk H
                  clear H
                  try go_wp2
                  have n0_ := Aside0.mk (Kd.R_drew HO_6.out)
                  have n1_ := Aside0.mk (Kd.R_drew HO_9.out)
                  have n2_ := Aside0.mk (below_drew1 HB.out)
                  clear HO_6
                  clear HO_9
                  clear HB
                  have HO_6 := n0_
                  have HO_9 := n1_
                  have HB := n2_
                  clear n0_ n1_ n2_
                  have p220 : 0 ≤ (x12_2 : Int) := of_decide_eq_true (by first | (with_reducible assumption) | assumption)
                  have q220 : x12_2 < (l0.length : Int) := of_decide_eq_true (by first | (with_reducible assumption) | assumption)
                  obtain ⟨ad220, e220, hx220_0, hx220_1, hx220_2, hx220_3, hx220_4, hx220_5, hx220_6⟩ := at_T31 HR0.out x12_2 p220 q220
                  have hw220_6 := hx220_6
                  have hw220_5 := hx220_5
                  have hw220_4 := hx220_4
                  have hw220_3 := hx220_3
                  have hw220_2 := hx220_2
                  have hw220_1 := hx220_1
                  have hw220_0 := hx220_0
                  cases e220
                  replace hx220_0 := (HB.out.cell (World.block_lt_of_cell? w _ hx220_0)).trans hx220_0
                  replace hx220_1 := (HB.out.cell (World.block_lt_of_cell? w _ hx220_1)).trans hx220_1
                  replace hx220_2 := (HB.out.cell (World.block_lt_of_cell? w _ hx220_2)).trans hx220_2
                  replace hx220_3 := (HB.out.cell (World.block_lt_of_cell? w _ hx220_3)).trans hx220_3
                  replace hx220_4 := (HB.out.cell (World.block_lt_of_cell? w _ hx220_4)).trans hx220_4
                  replace hx220_5 := (HB.out.cell (World.block_lt_of_cell? w _ hx220_5)).trans hx220_5
                  replace hx220_6 := (HB.out.cell (World.block_lt_of_cell? w _ hx220_6)).trans hx220_6
                  replace p220 := eq_true p220
                  replace q220 := eq_true q220
                  have p222 : 0 ≤ (x12_2 : Int) := of_decide_eq_true (by first | (with_reducible assumption) | assumption)
                  have q222 : x12_2 < (l0.length : Int) := of_decide_eq_true (by first | (with_reducible assumption) | assumption)
                  obtain ⟨ad222, e222, hx222_0, hx222_1, hx222_2, hx222_3, hx222_4, hx222_5, hx222_6⟩ := at_T31 HR0.out x12_2 p222 q222
                  have hw222_6 := hx222_6
                  have hw222_5 := hx222_5
                  have hw222_4 := hx222_4
                  have hw222_3 := hx222_3
                  have hw222_2 := hx222_2
                  have hw222_1 := hx222_1
                  have hw222_0 := hx222_0
                  obtain rfl : ad220 = ad222 := (by injection e222)
                  replace hx222_0 := (HB.out.cell (World.block_lt_of_cell? w _ hx222_0)).trans hx222_0
                  replace hx222_1 := (HB.out.cell (World.block_lt_of_cell? w _ hx222_1)).trans hx222_1
                  replace hx222_2 := (HB.out.cell (World.block_lt_of_cell? w _ hx222_2)).trans hx222_2
                  replace hx222_3 := (HB.out.cell (World.block_lt_of_cell? w _ hx222_3)).trans hx222_3
                  replace hx222_4 := (HB.out.cell (World.block_lt_of_cell? w _ hx222_4)).trans hx222_4
                  replace hx222_5 := (HB.out.cell (World.block_lt_of_cell? w _ hx222_5)).trans hx222_5
                  replace hx222_6 := (HB.out.cell (World.block_lt_of_cell? w _ hx222_6)).trans hx222_6
                  replace p222 := eq_true p222
                  replace q222 := eq_true q222
                  refine start_ (n := 11) (S := fun w' => w'.cell? (ad220.add ((x12_2).toNat * 7)) = some (.int .i64 ((rd_T31 l0 x12_2).f0)) ∧ w'.cell? ⟨(ad220.add ((x12_2).toNat * 7)).block, (ad220.add ((x12_2).toNat * 7)).off + 1, none⟩ = some (.bool ((rd_T31 l0 x12_2).f1)) ∧ w'.cell? ⟨(ad220.add ((x12_2).toNat * 7)).block, (ad220.add ((x12_2).toNat * 7)).off + 2, none⟩ = some (.int .u64 ((rd_T31 l0 x12_2).f2)) ∧ w'.cell? ⟨(ad220.add ((x12_2).toNat * 7)).block, (ad220.add ((x12_2).toNat * 7)).off + 3, none⟩ = some (.int .u64 ((rd_T31 l0 x12_2).f3)) ∧ w'.cell? ⟨(ad220.add ((x12_2).toNat * 7)).block, (ad220.add ((x12_2).toNat * 7)).off + 4, none⟩ = some (.int .i64 ((rd_T31 l0 x12_2).f4)) ∧ w'.cell? ⟨(ad220.add ((x12_2).toNat * 7)).block, (ad220.add ((x12_2).toNat * 7)).off + 5, none⟩ = some (.int .i64 ((rd_T31 l0 x12_2).f5)) ∧ w'.cell? ⟨(ad220.add ((x12_2).toNat * 7)).block, (ad220.add ((x12_2).toNat * 7)).off + 6, none⟩ = some (.int .i64 ((rd_T31 l0 x12_2).f6)) ∧ w'.cell? (ad220.add ((x12_2).toNat * 7)) = some (.int .i64 ((rd_T31 l0 x12_2).f0)) ∧ w'.cell? ⟨(ad220.add ((x12_2).toNat * 7)).block, (ad220.add ((x12_2).toNat * 7)).off + 1, none⟩ = some (.bool ((rd_T31 l0 x12_2).f1)) ∧ w'.cell? ⟨(ad220.add ((x12_2).toNat * 7)).block, (ad220.add ((x12_2).toNat * 7)).off + 2, none⟩ = some (.int .u64 ((rd_T31 l0 x12_2).f2)) ∧ w'.cell? ⟨(ad220.add ((x12_2).toNat * 7)).block, (ad220.add ((x12_2).toNat * 7)).off + 3, none⟩ = some (.int .u64 ((rd_T31 l0 x12_2).f3)) ∧ w'.cell? ⟨(ad220.add ((x12_2).toNat * 7)).block, (ad220.add ((x12_2).toNat * 7)).off + 4, none⟩ = some (.int .i64 ((rd_T31 l0 x12_2).f4)) ∧ w'.cell? ⟨(ad220.add ((x12_2).toNat * 7)).block, (ad220.add ((x12_2).toNat * 7)).off + 5, none⟩ = some (.int .i64 ((rd_T31 l0 x12_2).f5)) ∧ w'.cell? ⟨(ad220.add ((x12_2).toNat * 7)).block, (ad220.add ((x12_2).toNat * 7)).off + 6, none⟩ = some (.int .i64 ((rd_T31 l0 x12_2).f6))) (ds := []) #[false, false, false, false, false, false, false, false, false, false, false] (by kernel_rfl) rfl rfl ⟨((HB.out.cell (World.block_lt_of_cell? w _ hw220_0)).trans hw220_0), ((HB.out.cell (World.block_lt_of_cell? w _ hw220_1)).trans hw220_1), ((HB.out.cell (World.block_lt_of_cell? w _ hw220_2)).trans hw220_2), ((HB.out.cell (World.block_lt_of_cell? w _ hw220_3)).trans hw220_3), ((HB.out.cell (World.block_lt_of_cell? w _ hw220_4)).trans hw220_4), ((HB.out.cell (World.block_lt_of_cell? w _ hw220_5)).trans hw220_5), ((HB.out.cell (World.block_lt_of_cell? w _ hw220_6)).trans hw220_6), ((HB.out.cell (World.block_lt_of_cell? w _ hw222_0)).trans hw222_0), ((HB.out.cell (World.block_lt_of_cell? w _ hw222_1)).trans hw222_1), ((HB.out.cell (World.block_lt_of_cell? w _ hw222_2)).trans hw222_2), ((HB.out.cell (World.block_lt_of_cell? w _ hw222_3)).trans hw222_3), ((HB.out.cell (World.block_lt_of_cell? w _ hw222_4)).trans hw222_4), ((HB.out.cell (World.block_lt_of_cell? w _ hw222_5)).trans hw222_5), ((HB.out.cell (World.block_lt_of_cell? w _ hw222_6)).trans hw222_6)⟩ (fun hHeld => ?_); refine with_tabW silhouettelaw12_ScriptTells.tab9 silhouettelaw12_ScriptTells.bits9 (fun HT_ HW_ => ?_)
                  generalize wr.drew = w20 at HO_6 HO_9 HB hx220_0 hx220_1 hx220_2 hx220_3 hx220_4 hx220_5 hx220_6 hx222_0 hx222_1 hx222_2 hx222_3 hx222_4 hx222_5 hx222_6 hHeld ⊢
                  refine pure_ (i := 0) (N := some 41) (v := ?_) (a' := ?_) #[true, false, false, false, false, false, false, false, false, false, false] rfl rfl (any_of HT_.out (by kernel_rfl)) (fun _ _ _ h => h) (Or.inl ⟨by rfl, ?_⟩) ?_ ?_
                  rotate_left
                  · intro w'
                    go_simp
                    with_reducible rfl
                  rotate_left
                  · simp only [Act.put, List.setIfInBounds_toArray, List.set_cons_zero, List.set_cons_succ, i64_w, i32_w]
                    rfl
                  refine pure_ (i := 1) (N := some 42) (v := ?_) (a' := ?_) #[true, true, false, false, false, false, false, false, false, false, false] rfl rfl (any_of HT_.out (by kernel_rfl)) (fun _ _ _ h => h) (Or.inl ⟨by rfl, ?_⟩) ?_ ?_
                  rotate_left
                  · intro w'
                    go_simp
                    with_reducible rfl
                  rotate_left
                  · simp only [Act.put, List.setIfInBounds_toArray, List.set_cons_zero, List.set_cons_succ, i64_w, i32_w]
                    rfl
                  refine pure_ (i := 2) (N := some 43) (v := ?_) (a' := ?_) #[true, true, true, false, false, false, false, false, false, false, false] rfl rfl (any_of HT_.out (by kernel_rfl)) (fun _ _ _ h => h) (Or.inl ⟨by rfl, ?_⟩) ?_ ?_
                  rotate_left
                  · intro w'
                    go_simp
                    with_reducible rfl
                  rotate_left
                  · simp only [Act.put, List.setIfInBounds_toArray, List.set_cons_zero, List.set_cons_succ, i64_w, i32_w]
                    rfl
                  refine pure_ (i := 5) (N := some 46) (v := ?_) (a' := ?_) #[true, true, true, false, false, true, false, false, false, false, false] rfl rfl (any_of HT_.out (by kernel_rfl)) (fun _ _ _ h => h) (Or.inl ⟨by rfl, ?_⟩) ?_ ?_
                  rotate_left
                  · intro w'
                    go_simp
                    with_reducible rfl
                  rotate_left
                  · simp only [Act.put, List.setIfInBounds_toArray, List.set_cons_zero, List.set_cons_succ, i64_w, i32_w]
                    rfl
                  refine pure_ (i := 6) (N := some 47) (v := ?_) (a' := ?_) #[true, true, true, false, false, true, true, false, false, false, false] rfl rfl (any_of HT_.out (by kernel_rfl)) (fun _ _ _ h => h) (Or.inl ⟨by rfl, ?_⟩) ?_ ?_
                  rotate_left
                  · intro w'
                    go_simp
                    with_reducible rfl
                  rotate_left
                  · simp only [Act.put, List.setIfInBounds_toArray, List.set_cons_zero, List.set_cons_succ, i64_w, i32_w]
                    rfl
                  refine pure_ (i := 7) (N := some 48) (v := ?_) (a' := ?_) #[true, true, true, false, false, true, true, true, false, false, false] rfl rfl (any_of HT_.out (by kernel_rfl)) (fun _ _ _ h => h) (Or.inl ⟨by rfl, ?_⟩) ?_ ?_
                  rotate_left
                  · intro w'
                    go_simp
                    with_reducible rfl
                  rotate_left
                  · simp only [Act.put, List.setIfInBounds_toArray, List.set_cons_zero, List.set_cons_succ, i64_w, i32_w]
                    rfl
                  refine take_ (i := 3) (N := some 44) (v := ?_) (a' := ?_) #[true, true, true, true, false, true, true, true, false, false, false] rfl rfl (take_ofW HT_.out HW_.out (by kernel_rfl)) (fun _ _ _ h => h) (Or.inl ⟨by rfl, ?_⟩) hHeld ?_ ?_
                  rotate_left
                  · rintro w' ⟨s0, s1, s2, s3, s4, s5, s6, s7, s8, s9, s10, s11, s12, s13⟩
                    go_simp
                    with_reducible rfl
                  rotate_left
                  · simp only [Act.put, List.setIfInBounds_toArray, List.set_cons_zero, List.set_cons_succ, i64_w, i32_w]
                    rfl
                  refine take_ (i := 8) (N := some 49) (v := ?_) (a' := ?_) #[true, true, true, true, false, true, true, true, true, false, false] rfl rfl (take_ofW HT_.out HW_.out (by kernel_rfl)) (fun _ _ _ h => h) (Or.inl ⟨by rfl, ?_⟩) hHeld ?_ ?_
                  rotate_left
                  · rintro w' ⟨s0, s1, s2, s3, s4, s5, s6, s7, s8, s9, s10, s11, s12, s13⟩
                    go_simp
                    with_reducible rfl
                  rotate_left
                  · simp only [Act.put, List.setIfInBounds_toArray, List.set_cons_zero, List.set_cons_succ, i64_w, i32_w]
                    rfl
                  refine one_ (i := 4) (N := some 45) #[true, true, true, true, true, true, true, true, true, false, false] rfl rfl (one_of HT_.out (by kernel_rfl)) (by decide) (fun K hK => ?_)
                  refine goes_ Try.func13 (by kernel_rfl) rfl #[.agg #[.int .i64 ((rd_T31 l0 x12_2).f0), .bool ((rd_T31 l0 x12_2).f1), .int .u64 ((rd_T31 l0 x12_2).f2), .int .u64 ((rd_T31 l0 x12_2).f3), .int .i64 ((rd_T31 l0 x12_2).f4), .int .i64 ((rd_T31 l0 x12_2).f5), .int .i64 ((rd_T31 l0 x12_2).f6)]] (by rfl) rfl rfl (by (try simp only [List.map_toArray, List.map_cons, List.map_nil]); first | done | rfl | (simp only [List.length_drop, List.length_take]; rfl)) ?_
                  with_reducible refine (script_Right.calls ((rd_T31 l0 x12_2).f0) ((rd_T31 l0 x12_2).f1) ((rd_T31 l0 x12_2).f2) ((rd_T31 l0 x12_2).f3) ((rd_T31 l0 x12_2).f4) ((rd_T31 l0 x12_2).f5) ((rd_T31 l0 x12_2).f6) t221 _ A14.out).mono ?_
                  rintro e w21 ⟨rfl, hb⟩
                  refine ⟨_, rfl, ?_⟩
                  have n0_ := Aside0.mk (Kd.R_below (by (with_reducible repeat (first | apply Kd.R_alloc | apply Kd.R_drewN | apply Kd.R_drew)); exact HO_6.out) hb)
                  have n1_ := Aside0.mk (Kd.R_below (by (with_reducible repeat (first | apply Kd.R_alloc | apply Kd.R_drewN | apply Kd.R_drew)); exact HO_9.out) hb)
                  have n2_ := Aside0.mk (below_step (by repeat (first | (with_reducible first | exact HB.out | apply below_alloc | apply pw_below_drewN | apply below_drew1) | exact HB.out)) hb)
                  clear HO_6
                  clear HO_9
                  clear HB
                  have HO_6 := n0_
                  have HO_9 := n1_
                  have HB := n2_
                  clear n0_ n1_ n2_
                  (try clear hb)
                  (try clear hb2)
                  (try clear hk)
                  (try clear hi)
                  refine hK.out _ _ ⟨((HB.out.cell (World.block_lt_of_cell? w _ hw220_0)).trans hw220_0), ((HB.out.cell (World.block_lt_of_cell? w _ hw220_1)).trans hw220_1), ((HB.out.cell (World.block_lt_of_cell? w _ hw220_2)).trans hw220_2), ((HB.out.cell (World.block_lt_of_cell? w _ hw220_3)).trans hw220_3), ((HB.out.cell (World.block_lt_of_cell? w _ hw220_4)).trans hw220_4), ((HB.out.cell (World.block_lt_of_cell? w _ hw220_5)).trans hw220_5), ((HB.out.cell (World.block_lt_of_cell? w _ hw220_6)).trans hw220_6), ((HB.out.cell (World.block_lt_of_cell? w _ hw222_0)).trans hw222_0), ((HB.out.cell (World.block_lt_of_cell? w _ hw222_1)).trans hw222_1), ((HB.out.cell (World.block_lt_of_cell? w _ hw222_2)).trans hw222_2), ((HB.out.cell (World.block_lt_of_cell? w _ hw222_3)).trans hw222_3), ((HB.out.cell (World.block_lt_of_cell? w _ hw222_4)).trans hw222_4), ((HB.out.cell (World.block_lt_of_cell? w _ hw222_5)).trans hw222_5), ((HB.out.cell (World.block_lt_of_cell? w _ hw222_6)).trans hw222_6)⟩ (fun hHeld => ?_)
                  clear hK K
                  refine norm_ (a' := ?_) ?_ ?_
                  rotate_left
                  · show Act.put _ (some 45) _ = _
                    simp only [Act.put, List.setIfInBounds_toArray, List.set_cons_zero, List.set_cons_succ, i64_w, i32_w]
                    rfl
                  refine one_ (i := 9) (N := some 50) #[true, true, true, true, true, true, true, true, true, true, false] rfl rfl (one_of HT_.out (by kernel_rfl)) (by decide) (fun K hK => ?_)
                  refine goes_ Try.func14 (by kernel_rfl) rfl #[.agg #[.int .i64 ((rd_T31 l0 x12_2).f0), .bool ((rd_T31 l0 x12_2).f1), .int .u64 ((rd_T31 l0 x12_2).f2), .int .u64 ((rd_T31 l0 x12_2).f3), .int .i64 ((rd_T31 l0 x12_2).f4), .int .i64 ((rd_T31 l0 x12_2).f5), .int .i64 ((rd_T31 l0 x12_2).f6)]] (by rfl) rfl rfl (by (try simp only [List.map_toArray, List.map_cons, List.map_nil]); first | done | rfl | (simp only [List.length_drop, List.length_take]; rfl)) ?_
                  with_reducible refine (silhouetteref12_Right.calls ((rd_T31 l0 x12_2).f0) ((rd_T31 l0 x12_2).f1) ((rd_T31 l0 x12_2).f2) ((rd_T31 l0 x12_2).f3) ((rd_T31 l0 x12_2).f4) ((rd_T31 l0 x12_2).f5) ((rd_T31 l0 x12_2).f6) t223 _ A15.out).mono ?_
                  rintro e w22 ⟨rfl, hb⟩
                  refine ⟨_, rfl, ?_⟩
                  have n0_ := Aside0.mk (Kd.R_below (by (with_reducible repeat (first | apply Kd.R_alloc | apply Kd.R_drewN | apply Kd.R_drew)); exact HO_6.out) hb)
                  have n1_ := Aside0.mk (Kd.R_below (by (with_reducible repeat (first | apply Kd.R_alloc | apply Kd.R_drewN | apply Kd.R_drew)); exact HO_9.out) hb)
                  have n2_ := Aside0.mk (below_step (by repeat (first | (with_reducible first | exact HB.out | apply below_alloc | apply pw_below_drewN | apply below_drew1) | exact HB.out)) hb)
                  clear HO_6
                  clear HO_9
                  clear HB
                  have HO_6 := n0_
                  have HO_9 := n1_
                  have HB := n2_
                  clear n0_ n1_ n2_
                  (try clear hb)
                  (try clear hb2)
                  (try clear hk)
                  (try clear hi)
                  refine hK.out _ _ ⟨((HB.out.cell (World.block_lt_of_cell? w _ hw220_0)).trans hw220_0), ((HB.out.cell (World.block_lt_of_cell? w _ hw220_1)).trans hw220_1), ((HB.out.cell (World.block_lt_of_cell? w _ hw220_2)).trans hw220_2), ((HB.out.cell (World.block_lt_of_cell? w _ hw220_3)).trans hw220_3), ((HB.out.cell (World.block_lt_of_cell? w _ hw220_4)).trans hw220_4), ((HB.out.cell (World.block_lt_of_cell? w _ hw220_5)).trans hw220_5), ((HB.out.cell (World.block_lt_of_cell? w _ hw220_6)).trans hw220_6), ((HB.out.cell (World.block_lt_of_cell? w _ hw222_0)).trans hw222_0), ((HB.out.cell (World.block_lt_of_cell? w _ hw222_1)).trans hw222_1), ((HB.out.cell (World.block_lt_of_cell? w _ hw222_2)).trans hw222_2), ((HB.out.cell (World.block_lt_of_cell? w _ hw222_3)).trans hw222_3), ((HB.out.cell (World.block_lt_of_cell? w _ hw222_4)).trans hw222_4), ((HB.out.cell (World.block_lt_of_cell? w _ hw222_5)).trans hw222_5), ((HB.out.cell (World.block_lt_of_cell? w _ hw222_6)).trans hw222_6)⟩ (fun hHeld => ?_)
                  clear hK K
                  refine norm_ (a' := ?_) ?_ ?_
                  rotate_left
                  · show Act.put _ (some 50) _ = _
                    simp only [Act.put, List.setIfInBounds_toArray, List.set_cons_zero, List.set_cons_succ, i64_w, i32_w]
                    rfl
                  refine pure_ (i := 10) (N := some 51) (v := ?_) (a' := ?_) #[true, true, true, true, true, true, true, true, true, true, true] rfl rfl (any_of HT_.out (by kernel_rfl)) (fun _ _ _ h => h) (Or.inl ⟨by rfl, ?_⟩) ?_ ?_
                  rotate_left
                  · intro w'
                    go_simp
                    with_reducible rfl
                  rotate_left
                  · simp only [Act.put, List.setIfInBounds_toArray, List.set_cons_zero, List.set_cons_succ, i64_w, i32_w]
                    rfl
                  refine done_ (done_of HT_.out (by kernel_rfl)) ?_
                  try go_wp2
                  go_roundg k2
                  case measure => have := HJ3.out; have := HK2.out; omega
                  case rel => exact ⟨(wrap64 (x12_2 + 1)), (by first | rfl | (simp; done) | (simp [*]; done)), H', ⟨by have := HJ3.out; have := HK2.out; omega⟩, ⟨by (with_reducible repeat (first | apply Kd.R_alloc | apply Kd.R_drewN | apply Kd.R_drew)); exact HO_6.out⟩, ⟨by (with_reducible repeat (first | apply Kd.R_alloc | apply Kd.R_drewN | apply Kd.R_drew)); exact HO_9.out⟩, ⟨by repeat (first | (with_reducible first | exact HB.out | apply below_alloc | apply pw_below_drewN | apply below_drew1) | exact HB.out)⟩⟩
              · rw [if_neg c13] at H
                exact absurd H (by simp)
            · rw [if_neg c12] at H
              have c12b0 : decide (x12_2 < (l0.length : Int)) = false := decide_eq_false c12
              clear c12
              by_cases c23 : t202 = true
              · subst c23
                have H1 : ((script_Put.f k2 l0).bind fun t213 => ((silhouetteref12_Put.f k2 l0).bind fun t216 => (if (strOfNums t213).toList = (strOfNums t216).toList then ((silhouetteref12_Same.f k2 t203 t208).bind fun t219 => (if t219 = true then (if t204 = t209 then (some (t205 == t210)) else (some false)) else (some false))) else (some false)))) = some r := by rw [if_pos rfl] at H; exact H
                clear H
                have H := H1
                clear H1
                replace H := Option.bind_eq_some_iff.mp H
                obtain ⟨t213, A240, H⟩ := H
                replace H : ((silhouetteref12_Put.f k2 l0).bind fun t216 => (if (strOfNums t213).toList = (strOfNums t216).toList then ((silhouetteref12_Same.f k2 t203 t208).bind fun t219 => (if t219 = true then (if t204 = t209 then (some (t205 == t210)) else (some false)) else (some false))) else (some false))) = some r := H
                have A24 := Aside0.mk A240
                clear A240
                replace H := Option.bind_eq_some_iff.mp H
                obtain ⟨t216, A250, H⟩ := H
                replace H : (if (strOfNums t213).toList = (strOfNums t216).toList then ((silhouetteref12_Same.f k2 t203 t208).bind fun t219 => (if t219 = true then (if t204 = t209 then (some (t205 == t210)) else (some false)) else (some false))) else (some false)) = some r := H
                have A25 := Aside0.mk A250
                clear A250
                by_cases c26 : (strOfNums t213).toList = (strOfNums t216).toList
                · rw [if_pos c26] at H
                  have c26b0 : ((strOfNums t213).toList == (strOfNums t216).toList) = true := beq_iff_eq.mpr c26
                  have c26b1 : ((strOfNums t213).toList != (strOfNums t216).toList) = false := bne_eq_false_iff_eq.mpr c26
                  clear c26
                  replace H := Option.bind_eq_some_iff.mp H
                  obtain ⟨t219, A270, H⟩ := H
                  replace H : (if t219 = true then (if t204 = t209 then (some (t205 == t210)) else (some false)) else (some false)) = some r := H
                  have A27 := Aside0.mk A270
                  clear A270
                  by_cases c28 : t219 = true
                  · subst c28
                    have H1 : (if t204 = t209 then (some (t205 == t210)) else (some false)) = some r := by rw [if_pos rfl] at H; exact H
                    clear H
                    have H := H1
                    clear H1
                    by_cases c29 : t204 = t209
                    · rw [if_pos c29] at H
                      have c29b0 : (t204 == t209) = true := beq_iff_eq.mpr c29
                      have c29b1 : (t204 != t209) = false := bne_eq_false_iff_eq.mpr c29
                      clear c29
                      obtain rfl := Option.some.inj H
                      obtain ⟨Ao30, co30, eo30⟩ := Kd.R_slice HO_6.out
                      subst eo30
                      obtain ⟨Ao31, co31, eo31⟩ := Kd.R_slice HO_9.out
                      subst eo31
                      try go_wp2
                      have n0_ := Aside0.mk (Kd.R_drew HO_6.out)
                      have n1_ := Aside0.mk (Kd.R_drew HO_9.out)
                      have n2_ := Aside0.mk (below_drew1 HB.out)
                      clear HO_6
                      clear HO_9
                      clear HB
                      have HO_6 := n0_
                      have HO_9 := n1_
                      have HB := n2_
                      clear n0_ n1_ n2_
                      refine start_ (n := 26) (S := fun w' => True) (ds := []) #[false, false, false, false, false, false, false, false, false, false, false, false, false, false, false, false, false, false, false, false, false, false, false, false, false, false] (by kernel_rfl) rfl rfl trivial (fun hHeld => ?_); refine with_tabW silhouettelaw12_ScriptTells.tab11 silhouettelaw12_ScriptTells.bits11 (fun HT_ HW_ => ?_)
                      generalize wr.drew = w32 at HO_6 HO_9 HB hHeld ⊢
                      refine pure_ (i := 0) (N := some 52) (v := ?_) (a' := ?_) #[true, false, false, false, false, false, false, false, false, false, false, false, false, false, false, false, false, false, false, false, false, false, false, false, false, false] rfl rfl (any_of HT_.out (by kernel_rfl)) (fun _ _ _ h => h) (Or.inl ⟨by rfl, ?_⟩) ?_ ?_
                      rotate_left
                      · intro w'
                        go_simp
                        with_reducible rfl
                      rotate_left
                      · simp only [Act.put, List.setIfInBounds_toArray, List.set_cons_zero, List.set_cons_succ, i64_w, i32_w]
                        rfl
                      refine pure_ (i := 1) (N := some 53) (v := ?_) (a' := ?_) #[true, true, false, false, false, false, false, false, false, false, false, false, false, false, false, false, false, false, false, false, false, false, false, false, false, false] rfl rfl (any_of HT_.out (by kernel_rfl)) (fun _ _ _ h => h) (Or.inl ⟨by rfl, ?_⟩) ?_ ?_
                      rotate_left
                      · intro w'
                        go_simp
                        with_reducible rfl
                      rotate_left
                      · simp only [Act.put, List.setIfInBounds_toArray, List.set_cons_zero, List.set_cons_succ, i64_w, i32_w]
                        rfl
                      refine pure_ (i := 2) (N := some 54) (v := ?_) (a' := ?_) #[true, true, true, false, false, false, false, false, false, false, false, false, false, false, false, false, false, false, false, false, false, false, false, false, false, false] rfl rfl (any_of HT_.out (by kernel_rfl)) (fun _ _ _ h => h) (Or.inl ⟨by rfl, ?_⟩) ?_ ?_
                      rotate_left
                      · intro w'
                        go_simp
                        with_reducible rfl
                      rotate_left
                      · simp only [Act.put, List.setIfInBounds_toArray, List.set_cons_zero, List.set_cons_succ, i64_w, i32_w]
                        rfl
                      refine pure_ (i := 5) (N := some 57) (v := ?_) (a' := ?_) #[true, true, true, false, false, true, false, false, false, false, false, false, false, false, false, false, false, false, false, false, false, false, false, false, false, false] rfl rfl (any_of HT_.out (by kernel_rfl)) (fun _ _ _ h => h) (Or.inl ⟨by rfl, ?_⟩) ?_ ?_
                      rotate_left
                      · intro w'
                        go_simp
                        with_reducible rfl
                      rotate_left
                      · simp only [Act.put, List.setIfInBounds_toArray, List.set_cons_zero, List.set_cons_succ, i64_w, i32_w]
                        rfl
                      refine one_ (i := 3) (N := some 55) #[true, true, true, true, false, true, false, false, false, false, false, false, false, false, false, false, false, false, false, false, false, false, false, false, false, false] rfl rfl (one_of HT_.out (by kernel_rfl)) (by decide) (fun K hK => ?_)
                      refine goes_ Try.func15 (by kernel_rfl) rfl #[.slice A0 l0.length c0] (by rfl) rfl rfl (by (try simp only [List.map_toArray, List.map_cons, List.map_nil]); first | done | rfl | (simp only [List.length_drop, List.length_take]; rfl)) ?_
                      with_reducible refine (script_Put.calls k2 _ _ l0 t213 _ ?side1 ?side2 A24.out).mono ?_
                      (case side1 => repeat (first | exact (Kd.C_below HR0.out HB.out) | (with_reducible refine Kd.C_alloc ?_ _) | (with_reducible refine Kd.C_drewN ?_ _) | (with_reducible refine Kd.C_drew ?_)))
                      (case side2 => exact HC0.out)
                      rintro e w33 ⟨v214, rfl, ho0, hb⟩
                      refine ⟨_, rfl, ?_⟩
                      have n0_ := Aside0.mk (Kd.R_below (by (with_reducible repeat (first | apply Kd.R_alloc | apply Kd.R_drewN | apply Kd.R_drew)); exact HO_6.out) hb)
                      have n1_ := Aside0.mk (Kd.R_below (by (with_reducible repeat (first | apply Kd.R_alloc | apply Kd.R_drewN | apply Kd.R_drew)); exact HO_9.out) hb)
                      have n2_ := Aside0.mk (Kd.R_lower ho0 (below_size (by repeat (first | (with_reducible first | exact HB.out | apply below_alloc | apply pw_below_drewN | apply below_drew1) | exact HB.out))))
                      have n3_ := Aside0.mk (below_step (by repeat (first | (with_reducible first | exact HB.out | apply below_alloc | apply pw_below_drewN | apply below_drew1) | exact HB.out)) hb)
                      clear HO_6
                      clear HO_9
                      clear HB
                      have HO_6 := n0_
                      have HO_9 := n1_
                      have HO215 := n2_
                      have HB := n3_
                      clear n0_ n1_ n2_ n3_
                      (try clear hb)
                      (try clear hb2)
                      (try clear hk)
                      (try clear hi)
                      (try clear ho0)
                      refine hK.out _ _ trivial (fun hHeld => ?_)
                      clear hK K
                      refine norm_ (a' := ?_) ?_ ?_
                      rotate_left
                      · show Act.put _ (some 55) _ = _
                        simp only [Act.put, List.setIfInBounds_toArray, List.set_cons_zero, List.set_cons_succ, i64_w, i32_w]
                        rfl
                      refine join_ (σ := Value) 18 #[true, true, true, true, true, true, true, true, false, false, false, false, false, false, false, false, false, false, false, false, false, false, false, false, false, false] (fun s_ => [(56, .string (strOfNums t213)), (58, s_), (59, .string (strOfNums t216))]) (fun s_ w' => (Kd.R (Kd.int .u8) 5 w' w.heap.size (fun k_ => some k_ ≠ (s_ : Value).ownBlock) v214 t213) ∧ (Kd.R (Kd.int .u8) 5 w' w.heap.size (fun k_ => some k_ ≠ (v214 : Value).ownBlock) s_ t216) ∧ (Kd.R k31 31 w' w.heap.size (fun k_ => some k_ ≠ (.slice Ao31 t208.length co31 : Value).ownBlock) (.slice Ao30 t203.length co30) t203) ∧ (Kd.R k31 31 w' w.heap.size (fun k_ => some k_ ≠ (.slice Ao30 t203.length co30 : Value).ownBlock) (.slice Ao31 t208.length co31) t208) ∧ (Below w.heap.size w w')) ?_ ?_
                      rotate_left
                      · intro hCont
                        refine two_ (i := 4) (j := 6) (Ni := some 56) (Nj := some 58) #[true, true, true, true, true, true, false, false, false, false, false, false, false, false, false, false, false, false, false, false, false, false, false, false, false, false] #[true, true, true, true, false, true, true, false, false, false, false, false, false, false, false, false, false, false, false, false, false, false, false, false, false, false] rfl rfl rfl rfl (two_of HT_.out (by kernel_rfl)) (by decide) (by decide) (fun K hK => ?_) (fun K hK => ?_)
                        · skip
                          have hcv34 := own_string (P := Try.prog) Try.underlying23 Try.underlying5 Try.underlying9 (Kd.own_of_R HO215.out)
                          refine value_ (w1 := ?_) (v := ?_) (by rfl) rfl ?_ ?_
                          rotate_left 2
                          · go_simp
                            constructor
                            · rfl
                            · rfl
                          clear hcv34
                          refine hK.out _ _ trivial (fun hHeld => ?_)
                          clear hK K
                          refine norm_ (a' := ?_) ?_ ?_
                          rotate_left
                          · show Act.put _ (some 56) _ = _
                            simp only [Act.put, List.setIfInBounds_toArray, List.set_cons_zero, List.set_cons_succ, i64_w, i32_w]
                            rfl
                          refine one_ (i := 6) (N := some 58) #[true, true, true, true, true, true, true, false, false, false, false, false, false, false, false, false, false, false, false, false, false, false, false, false, false, false] rfl rfl (one_of HT_.out (by kernel_rfl)) (by decide) (fun K hK => ?_)
                          refine goes_ Try.func16 (by kernel_rfl) rfl #[.slice A0 l0.length c0] (by rfl) rfl rfl (by (try simp only [List.map_toArray, List.map_cons, List.map_nil]); first | done | rfl | (simp only [List.length_drop, List.length_take]; rfl)) ?_
                          with_reducible refine (silhouetteref12_Put.calls k2 _ _ l0 t216 _ ?side1 ?side2 A25.out).mono ?_
                          (case side1 => repeat (first | exact (Kd.C_below HR0.out HB.out) | (with_reducible refine Kd.C_alloc ?_ _) | (with_reducible refine Kd.C_drewN ?_ _) | (with_reducible refine Kd.C_drew ?_)))
                          (case side2 => exact HC0.out)
                          rintro e w35 ⟨v217, rfl, ho0, hb⟩
                          refine ⟨_, rfl, ?_⟩
                          have n0_ := Aside0.mk (Kd.R_below (by (with_reducible repeat (first | apply Kd.R_alloc | apply Kd.R_drewN | apply Kd.R_drew)); exact HO_6.out) hb)
                          have n1_ := Aside0.mk (Kd.R_below (by (with_reducible repeat (first | apply Kd.R_alloc | apply Kd.R_drewN | apply Kd.R_drew)); exact HO_9.out) hb)
                          have n2_ := Aside0.mk (Kd.R_elder' (by (with_reducible repeat (first | apply Kd.R_alloc | apply Kd.R_drewN | apply Kd.R_drew)); exact HO215.out) (Kd.R_base ho0) hb)
                          have n3_ := Aside0.mk (Kd.R_lower (Kd.R_new' ho0 (Kd.R_lt (by (with_reducible repeat (first | apply Kd.R_alloc | apply Kd.R_drewN | apply Kd.R_drew)); exact HO215.out))) (below_size (by repeat (first | (with_reducible first | exact HB.out | apply below_alloc | apply pw_below_drewN | apply below_drew1) | exact HB.out))))
                          have n4_ := Aside0.mk (below_step (by repeat (first | (with_reducible first | exact HB.out | apply below_alloc | apply pw_below_drewN | apply below_drew1) | exact HB.out)) hb)
                          clear HO_6
                          clear HO_9
                          clear HO215
                          clear HB
                          have HO_6 := n0_
                          have HO_9 := n1_
                          have HO215 := n2_
                          have HO218 := n3_
                          have HB := n4_
                          clear n0_ n1_ n2_ n3_ n4_
                          (try clear hb)
                          (try clear hb2)
                          (try clear hk)
                          (try clear hi)
                          (try clear ho0)
                          refine hK.out _ _ trivial (fun hHeld => ?_)
                          clear hK K
                          refine norm_ (a' := ?_) ?_ ?_
                          rotate_left
                          · show Act.put _ (some 58) _ = _
                            simp only [Act.put, List.setIfInBounds_toArray, List.set_cons_zero, List.set_cons_succ, i64_w, i32_w]
                            rfl
                          refine one_ (i := 7) (N := some 59) #[true, true, true, true, true, true, true, true, false, false, false, false, false, false, false, false, false, false, false, false, false, false, false, false, false, false] rfl rfl (one_of HT_.out (by kernel_rfl)) (by decide) (fun K hK => ?_)
                          have hcv36 := own_string (P := Try.prog) Try.underlying23 Try.underlying5 Try.underlying9 (Kd.own_of_R HO218.out)
                          refine value_ (w1 := ?_) (v := ?_) (by rfl) rfl ?_ ?_
                          rotate_left 2
                          · go_simp
                            constructor
                            · rfl
                            · rfl
                          clear hcv36
                          refine hK.out _ _ trivial (fun hHeld => ?_)
                          clear hK K
                          refine norm_ (a' := ?_) ?_ ?_
                          rotate_left
                          · show Act.put _ (some 59) _ = _
                            simp only [Act.put, List.setIfInBounds_toArray, List.set_cons_zero, List.set_cons_succ, i64_w, i32_w]
                            rfl
                          exact norm_ (by simp only [putAll, Act.put, List.setIfInBounds_toArray, List.set_cons_zero, List.set_cons_succ]) (hCont (v217) _ ⟨(by (with_reducible repeat (first | apply Kd.R_alloc | apply Kd.R_drewN | apply Kd.R_drew)); exact Kd.R_mono HO215.out (fun _ hk => hk.2)), (by (with_reducible repeat (first | apply Kd.R_alloc | apply Kd.R_drewN | apply Kd.R_drew)); exact Kd.R_mono HO218.out (fun _ hk => hk.2)), (by (with_reducible repeat (first | apply Kd.R_alloc | apply Kd.R_drewN | apply Kd.R_drew)); exact HO_6.out), (by (with_reducible repeat (first | apply Kd.R_alloc | apply Kd.R_drewN | apply Kd.R_drew)); exact HO_9.out), (by repeat (first | (with_reducible first | exact HB.out | apply below_alloc | apply pw_below_drewN | apply below_drew1) | exact HB.out))⟩)
                        · skip
                          refine goes_ Try.func16 (by kernel_rfl) rfl #[.slice A0 l0.length c0] (by rfl) rfl rfl (by (try simp only [List.map_toArray, List.map_cons, List.map_nil]); first | done | rfl | (simp only [List.length_drop, List.length_take]; rfl)) ?_
                          with_reducible refine (silhouetteref12_Put.calls k2 _ _ l0 t216 _ ?side1 ?side2 A25.out).mono ?_
                          (case side1 => repeat (first | exact (Kd.C_below HR0.out HB.out) | (with_reducible refine Kd.C_alloc ?_ _) | (with_reducible refine Kd.C_drewN ?_ _) | (with_reducible refine Kd.C_drew ?_)))
                          (case side2 => exact HC0.out)
                          rintro e w34 ⟨v217, rfl, ho0, hb⟩
                          refine ⟨_, rfl, ?_⟩
                          have n0_ := Aside0.mk (Kd.R_below (by (with_reducible repeat (first | apply Kd.R_alloc | apply Kd.R_drewN | apply Kd.R_drew)); exact HO_6.out) hb)
                          have n1_ := Aside0.mk (Kd.R_below (by (with_reducible repeat (first | apply Kd.R_alloc | apply Kd.R_drewN | apply Kd.R_drew)); exact HO_9.out) hb)
                          have n2_ := Aside0.mk (Kd.R_elder' (by (with_reducible repeat (first | apply Kd.R_alloc | apply Kd.R_drewN | apply Kd.R_drew)); exact HO215.out) (Kd.R_base ho0) hb)
                          have n3_ := Aside0.mk (Kd.R_lower (Kd.R_new' ho0 (Kd.R_lt (by (with_reducible repeat (first | apply Kd.R_alloc | apply Kd.R_drewN | apply Kd.R_drew)); exact HO215.out))) (below_size (by repeat (first | (with_reducible first | exact HB.out | apply below_alloc | apply pw_below_drewN | apply below_drew1) | exact HB.out))))
                          have n4_ := Aside0.mk (below_step (by repeat (first | (with_reducible first | exact HB.out | apply below_alloc | apply pw_below_drewN | apply below_drew1) | exact HB.out)) hb)
                          clear HO_6
                          clear HO_9
                          clear HO215
                          clear HB
                          have HO_6 := n0_
                          have HO_9 := n1_
                          have HO215 := n2_
                          have HO218 := n3_
                          have HB := n4_
                          clear n0_ n1_ n2_ n3_ n4_
                          (try clear hb)
                          (try clear hb2)
                          (try clear hk)
                          (try clear hi)
                          (try clear ho0)
                          refine hK.out _ _ trivial (fun hHeld => ?_)
                          clear hK K
                          refine norm_ (a' := ?_) ?_ ?_
                          rotate_left
                          · show Act.put _ (some 58) _ = _
                            simp only [Act.put, List.setIfInBounds_toArray, List.set_cons_zero, List.set_cons_succ, i64_w, i32_w]
                            rfl
                          refine two_ (i := 4) (j := 7) (Ni := some 56) (Nj := some 59) #[true, true, true, true, true, true, true, false, false, false, false, false, false, false, false, false, false, false, false, false, false, false, false, false, false, false] #[true, true, true, true, false, true, true, true, false, false, false, false, false, false, false, false, false, false, false, false, false, false, false, false, false, false] rfl rfl rfl rfl (two_of HT_.out (by kernel_rfl)) (by decide) (by decide) (fun K hK => ?_) (fun K hK => ?_)
                          · skip
                            have hcv35 := own_string (P := Try.prog) Try.underlying23 Try.underlying5 Try.underlying9 (Kd.own_of_R HO215.out)
                            refine value_ (w1 := ?_) (v := ?_) (by rfl) rfl ?_ ?_
                            rotate_left 2
                            · go_simp
                              constructor
                              · rfl
                              · rfl
                            clear hcv35
                            refine hK.out _ _ trivial (fun hHeld => ?_)
                            clear hK K
                            refine norm_ (a' := ?_) ?_ ?_
                            rotate_left
                            · show Act.put _ (some 56) _ = _
                              simp only [Act.put, List.setIfInBounds_toArray, List.set_cons_zero, List.set_cons_succ, i64_w, i32_w]
                              rfl
                            refine one_ (i := 7) (N := some 59) #[true, true, true, true, true, true, true, true, false, false, false, false, false, false, false, false, false, false, false, false, false, false, false, false, false, false] rfl rfl (one_of HT_.out (by kernel_rfl)) (by decide) (fun K hK => ?_)
                            have hcv36 := own_string (P := Try.prog) Try.underlying23 Try.underlying5 Try.underlying9 (Kd.own_of_R HO218.out)
                            refine value_ (w1 := ?_) (v := ?_) (by rfl) rfl ?_ ?_
                            rotate_left 2
                            · go_simp
                              constructor
                              · rfl
                              · rfl
                            clear hcv36
                            refine hK.out _ _ trivial (fun hHeld => ?_)
                            clear hK K
                            refine norm_ (a' := ?_) ?_ ?_
                            rotate_left
                            · show Act.put _ (some 59) _ = _
                              simp only [Act.put, List.setIfInBounds_toArray, List.set_cons_zero, List.set_cons_succ, i64_w, i32_w]
                              rfl
                            exact norm_ (by simp only [putAll, Act.put, List.setIfInBounds_toArray, List.set_cons_zero, List.set_cons_succ]) (hCont (v217) _ ⟨(by (with_reducible repeat (first | apply Kd.R_alloc | apply Kd.R_drewN | apply Kd.R_drew)); exact Kd.R_mono HO215.out (fun _ hk => hk.2)), (by (with_reducible repeat (first | apply Kd.R_alloc | apply Kd.R_drewN | apply Kd.R_drew)); exact Kd.R_mono HO218.out (fun _ hk => hk.2)), (by (with_reducible repeat (first | apply Kd.R_alloc | apply Kd.R_drewN | apply Kd.R_drew)); exact HO_6.out), (by (with_reducible repeat (first | apply Kd.R_alloc | apply Kd.R_drewN | apply Kd.R_drew)); exact HO_9.out), (by repeat (first | (with_reducible first | exact HB.out | apply below_alloc | apply pw_below_drewN | apply below_drew1) | exact HB.out))⟩)
                          · skip
                            have hcv35 := own_string (P := Try.prog) Try.underlying23 Try.underlying5 Try.underlying9 (Kd.own_of_R HO218.out)
                            refine value_ (w1 := ?_) (v := ?_) (by rfl) rfl ?_ ?_
                            rotate_left 2
                            · go_simp
                              constructor
                              · rfl
                              · rfl
                            clear hcv35
                            refine hK.out _ _ trivial (fun hHeld => ?_)
                            clear hK K
                            refine norm_ (a' := ?_) ?_ ?_
                            rotate_left
                            · show Act.put _ (some 59) _ = _
                              simp only [Act.put, List.setIfInBounds_toArray, List.set_cons_zero, List.set_cons_succ, i64_w, i32_w]
                              rfl
                            refine one_ (i := 4) (N := some 56) #[true, true, true, true, true, true, true, true, false, false, false, false, false, false, false, false, false, false, false, false, false, false, false, false, false, false] rfl rfl (one_of HT_.out (by kernel_rfl)) (by decide) (fun K hK => ?_)
                            have hcv36 := own_string (P := Try.prog) Try.underlying23 Try.underlying5 Try.underlying9 (Kd.own_of_R HO215.out)
                            refine value_ (w1 := ?_) (v := ?_) (by rfl) rfl ?_ ?_
                            rotate_left 2
                            · go_simp
                              constructor
                              · rfl
                              · rfl
                            clear hcv36
                            refine hK.out _ _ trivial (fun hHeld => ?_)
                            clear hK K
                            refine norm_ (a' := ?_) ?_ ?_
                            rotate_left
                            · show Act.put _ (some 56) _ = _
                              simp only [Act.put, List.setIfInBounds_toArray, List.set_cons_zero, List.set_cons_succ, i64_w, i32_w]
                              rfl
                            exact norm_ (by simp only [putAll, Act.put, List.setIfInBounds_toArray, List.set_cons_zero, List.set_cons_succ]) (hCont (v217) _ ⟨(by (with_reducible repeat (first | apply Kd.R_alloc | apply Kd.R_drewN | apply Kd.R_drew)); exact Kd.R_mono HO215.out (fun _ hk => hk.2)), (by (with_reducible repeat (first | apply Kd.R_alloc | apply Kd.R_drewN | apply Kd.R_drew)); exact Kd.R_mono HO218.out (fun _ hk => hk.2)), (by (with_reducible repeat (first | apply Kd.R_alloc | apply Kd.R_drewN | apply Kd.R_drew)); exact HO_6.out), (by (with_reducible repeat (first | apply Kd.R_alloc | apply Kd.R_drewN | apply Kd.R_drew)); exact HO_9.out), (by repeat (first | (with_reducible first | exact HB.out | apply below_alloc | apply pw_below_drewN | apply below_drew1) | exact HB.out))⟩)
                      rintro v217 w37 ⟨h0_, h1_, h2_, h3_, h4_⟩
                      have n0_ : Aside0 (Kd.R (Kd.int .u8) 5 w37 w.heap.size (fun k_ => some k_ ≠ (v217 : Value).ownBlock) v214 t213) := ⟨h0_⟩
                      have n1_ : Aside0 (Kd.R (Kd.int .u8) 5 w37 w.heap.size (fun k_ => some k_ ≠ (v214 : Value).ownBlock) v217 t216) := ⟨h1_⟩
                      have n2_ : Aside0 (Kd.R k31 31 w37 w.heap.size (fun k_ => some k_ ≠ (.slice Ao31 t208.length co31 : Value).ownBlock) (.slice Ao30 t203.length co30) t203) := ⟨h2_⟩
                      have n3_ : Aside0 (Kd.R k31 31 w37 w.heap.size (fun k_ => some k_ ≠ (.slice Ao30 t203.length co30 : Value).ownBlock) (.slice Ao31 t208.length co31) t208) := ⟨h3_⟩
                      have n4_ : Aside0 (Below w.heap.size w w37) := ⟨h4_⟩
                      clear HO_6
                      clear HO_9
                      clear HB
                      clear h0_ h1_ h2_ h3_ h4_
                      have HO215 := n0_
                      have HO218 := n1_
                      have HO_6 := n2_
                      have HO_9 := n3_
                      have HB := n4_
                      clear n0_ n1_ n2_ n3_ n4_
                      have hHeld := trivial
                      refine norm_ (a' := ?_) ?_ ?_
                      rotate_left
                      · simp only [putAll, Act.put, List.setIfInBounds_toArray, List.set_cons_zero, List.set_cons_succ]
                        rfl
                      refine pure_ (i := 8) (N := some 60) (v := ?_) (a' := ?_) #[true, true, true, true, true, true, true, true, true, false, false, false, false, false, false, false, false, false, false, false, false, false, false, false, false, false] rfl rfl (any_of HT_.out (by kernel_rfl)) (fun _ _ _ h => h) (Or.inl ⟨by rfl, ?_⟩) ?_ ?_
                      rotate_left
                      · intro w'
                        go_simp
                        with_reducible rfl
                      rotate_left
                      · simp only [Act.put, List.setIfInBounds_toArray, List.set_cons_zero, List.set_cons_succ, i64_w, i32_w]
                        rfl
                      refine pure_ (i := 9) (N := some 61) (v := ?_) (a' := ?_) #[true, true, true, true, true, true, true, true, true, true, false, false, false, false, false, false, false, false, false, false, false, false, false, false, false, false] rfl rfl (any_of HT_.out (by kernel_rfl)) (fun _ _ _ h => h) (Or.inl ⟨by rfl, ?_⟩) ?_ ?_
                      rotate_left
                      · intro w'
                        go_simp
                        with_reducible rfl
                      rotate_left
                      · simp only [Act.put, List.setIfInBounds_toArray, List.set_cons_zero, List.set_cons_succ, i64_w, i32_w]
                        rfl
                      refine pure_ (i := 10) (N := some 62) (v := ?_) (a' := ?_) #[true, true, true, true, true, true, true, true, true, true, true, false, false, false, false, false, false, false, false, false, false, false, false, false, false, false] rfl rfl (any_of HT_.out (by kernel_rfl)) (fun _ _ _ h => h) (Or.inl ⟨by rfl, ?_⟩) ?_ ?_
                      rotate_left
                      · intro w'
                        go_simp
                        with_reducible rfl
                      rotate_left
                      · simp only [Act.put, List.setIfInBounds_toArray, List.set_cons_zero, List.set_cons_succ, i64_w, i32_w]
                        rfl
                      refine pure_ (i := 11) (N := some 63) (v := ?_) (a' := ?_) #[true, true, true, true, true, true, true, true, true, true, true, true, false, false, false, false, false, false, false, false, false, false, false, false, false, false] rfl rfl (any_of HT_.out (by kernel_rfl)) (fun _ _ _ h => h) (Or.inl ⟨by rfl, ?_⟩) ?_ ?_
                      rotate_left
                      · intro w'
                        go_simp
                        with_reducible rfl
                      rotate_left
                      · simp only [Act.put, List.setIfInBounds_toArray, List.set_cons_zero, List.set_cons_succ, i64_w, i32_w]
                        rfl
                      refine pure_ (i := 12) (N := some 64) (v := ?_) (a' := ?_) #[true, true, true, true, true, true, true, true, true, true, true, true, true, false, false, false, false, false, false, false, false, false, false, false, false, false] rfl rfl (any_of HT_.out (by kernel_rfl)) (fun _ _ _ h => h) (Or.inl ⟨by rfl, ?_⟩) ?_ ?_
                      rotate_left
                      · intro w'
                        go_simp
                        with_reducible rfl
                      rotate_left
                      · simp only [Act.put, List.setIfInBounds_toArray, List.set_cons_zero, List.set_cons_succ, i64_w, i32_w]
                        rfl
                      refine one_ (i := 13) (N := some 65) #[true, true, true, true, true, true, true, true, true, true, true, true, true, true, false, false, false, false, false, false, false, false, false, false, false, false] rfl rfl (one_of HT_.out (by kernel_rfl)) (by decide) (fun K hK => ?_)
                      refine goes_ Try.func17 (by kernel_rfl) rfl #[.slice Ao30 t203.length co30, .slice Ao31 t208.length co31] (by rfl) rfl rfl (by (try simp only [List.map_toArray, List.map_cons, List.map_nil]); first | done | rfl | (simp only [List.length_drop, List.length_take]; rfl)) ?_
                      with_reducible refine (silhouetteref12_Same.calls k2 _ _ t203 _ _ t208 true _ ?side1 ?side2 ?side3 ?side4 A27.out).mono ?_
                      (case side1 => repeat (first | exact (Kd.R_reads' HO_6.out).2.2 | (with_reducible refine Kd.C_alloc ?_ _) | (with_reducible refine Kd.C_drewN ?_ _) | (with_reducible refine Kd.C_drew ?_)))
                      (case side2 => exact (Kd.R_reads' HO_6.out).2.1)
                      (case side3 => repeat (first | exact (Kd.R_reads' HO_9.out).2.2 | (with_reducible refine Kd.C_alloc ?_ _) | (with_reducible refine Kd.C_drewN ?_ _) | (with_reducible refine Kd.C_drew ?_)))
                      (case side4 => exact (Kd.R_reads' HO_9.out).2.1)
                      rintro e w' ⟨rfl, ⟨nd, rfl⟩⟩
                      refine ⟨_, rfl, ?_⟩
                      refine hK.out _ _ trivial (fun hHeld => ?_)
                      clear hK K
                      refine norm_ (a' := ?_) ?_ ?_
                      rotate_left
                      · show Act.put _ (some 65) _ = _
                        simp only [Act.put, List.setIfInBounds_toArray, List.set_cons_zero, List.set_cons_succ, i64_w, i32_w]
                        rfl
                      refine pure_ (i := 14) (N := some 66) (v := ?_) (a' := ?_) #[true, true, true, true, true, true, true, true, true, true, true, true, true, true, true, false, false, false, false, false, false, false, false, false, false, false] rfl rfl (any_of HT_.out (by kernel_rfl)) (fun _ _ _ h => h) (Or.inl ⟨by rfl, ?_⟩) ?_ ?_
                      rotate_left
                      · intro w'
                        go_simp
                        with_reducible rfl
                      rotate_left
                      · simp only [Act.put, List.setIfInBounds_toArray, List.set_cons_zero, List.set_cons_succ, i64_w, i32_w]
                        rfl
                      refine pure_ (i := 15) (N := some 67) (v := ?_) (a' := ?_) #[true, true, true, true, true, true, true, true, true, true, true, true, true, true, true, true, false, false, false, false, false, false, false, false, false, false] rfl rfl (any_of HT_.out (by kernel_rfl)) (fun _ _ _ h => h) (Or.inl ⟨by rfl, ?_⟩) ?_ ?_
                      rotate_left
                      · intro w'
                        go_simp
                        with_reducible rfl
                      rotate_left
                      · simp only [Act.put, List.setIfInBounds_toArray, List.set_cons_zero, List.set_cons_succ, i64_w, i32_w]
                        rfl
                      refine pure_ (i := 16) (N := some 68) (v := ?_) (a' := ?_) #[true, true, true, true, true, true, true, true, true, true, true, true, true, true, true, true, true, false, false, false, false, false, false, false, false, false] rfl rfl (any_of HT_.out (by kernel_rfl)) (fun _ _ _ h => h) (Or.inl ⟨by rfl, ?_⟩) ?_ ?_
                      rotate_left
                      · intro w'
                        go_simp
                        with_reducible rfl
                      rotate_left
                      · simp only [Act.put, List.setIfInBounds_toArray, List.set_cons_zero, List.set_cons_succ, i64_w, i32_w]
                        rfl
                      refine pure_ (i := 17) (N := some 69) (v := ?_) (a' := ?_) #[true, true, true, true, true, true, true, true, true, true, true, true, true, true, true, true, true, true, false, false, false, false, false, false, false, false] rfl rfl (any_of HT_.out (by kernel_rfl)) (fun _ _ _ h => h) (Or.inl ⟨by rfl, ?_⟩) ?_ ?_
                      rotate_left
                      · intro w'
                        go_simp
                        with_reducible rfl
                      rotate_left
                      · simp only [Act.put, List.setIfInBounds_toArray, List.set_cons_zero, List.set_cons_succ, i64_w, i32_w]
                        rfl
                      refine pure_ (i := 18) (N := some 70) (v := ?_) (a' := ?_) #[true, true, true, true, true, true, true, true, true, true, true, true, true, true, true, true, true, true, true, false, false, false, false, false, false, false] rfl rfl (any_of HT_.out (by kernel_rfl)) (fun _ _ _ h => h) (Or.inl ⟨by rfl, ?_⟩) ?_ ?_
                      rotate_left
                      · intro w'
                        go_simp
                        with_reducible rfl
                      rotate_left
                      · simp only [Act.put, List.setIfInBounds_toArray, List.set_cons_zero, List.set_cons_succ, i64_w, i32_w]
                        rfl
                      refine pure_ (i := 19) (N := some 71) (v := ?_) (a' := ?_) #[true, true, true, true, true, true, true, true, true, true, true, true, true, true, true, true, true, true, true, true, false, false, false, false, false, false] rfl rfl (any_of HT_.out (by kernel_rfl)) (fun _ _ _ h => h) (Or.inl ⟨by rfl, ?_⟩) ?_ ?_
                      rotate_left
                      · intro w'
                        go_simp
                        with_reducible rfl
                      rotate_left
                      · simp only [Act.put, List.setIfInBounds_toArray, List.set_cons_zero, List.set_cons_succ, i64_w, i32_w]
                        rfl
                      refine pure_ (i := 20) (N := some 72) (v := ?_) (a' := ?_) #[true, true, true, true, true, true, true, true, true, true, true, true, true, true, true, true, true, true, true, true, true, false, false, false, false, false] rfl rfl (any_of HT_.out (by kernel_rfl)) (fun _ _ _ h => h) (Or.inl ⟨by rfl, ?_⟩) ?_ ?_
                      rotate_left
                      · intro w'
                        go_simp
                        with_reducible rfl
                      rotate_left
                      · simp only [Act.put, List.setIfInBounds_toArray, List.set_cons_zero, List.set_cons_succ, i64_w, i32_w]
                        rfl
                      refine pure_ (i := 21) (N := some 73) (v := ?_) (a' := ?_) #[true, true, true, true, true, true, true, true, true, true, true, true, true, true, true, true, true, true, true, true, true, true, false, false, false, false] rfl rfl (any_of HT_.out (by kernel_rfl)) (fun _ _ _ h => h) (Or.inl ⟨by rfl, ?_⟩) ?_ ?_
                      rotate_left
                      · intro w'
                        go_simp
                        with_reducible rfl
                      rotate_left
                      · simp only [Act.put, List.setIfInBounds_toArray, List.set_cons_zero, List.set_cons_succ, i64_w, i32_w]
                        rfl
                      refine pure_ (i := 22) (N := some 74) (v := ?_) (a' := ?_) #[true, true, true, true, true, true, true, true, true, true, true, true, true, true, true, true, true, true, true, true, true, true, true, false, false, false] rfl rfl (any_of HT_.out (by kernel_rfl)) (fun _ _ _ h => h) (Or.inl ⟨by rfl, ?_⟩) ?_ ?_
                      rotate_left
                      · intro w'
                        go_simp
                        with_reducible rfl
                      rotate_left
                      · simp only [Act.put, List.setIfInBounds_toArray, List.set_cons_zero, List.set_cons_succ, i64_w, i32_w]
                        rfl
                      refine pure_ (i := 23) (N := some 75) (v := ?_) (a' := ?_) #[true, true, true, true, true, true, true, true, true, true, true, true, true, true, true, true, true, true, true, true, true, true, true, true, false, false] rfl rfl (any_of HT_.out (by kernel_rfl)) (fun _ _ _ h => h) (Or.inl ⟨by rfl, ?_⟩) ?_ ?_
                      rotate_left
                      · intro w'
                        go_simp
                        with_reducible rfl
                      rotate_left
                      · simp only [Act.put, List.setIfInBounds_toArray, List.set_cons_zero, List.set_cons_succ, i64_w, i32_w]
                        rfl
                      refine pure_ (i := 24) (N := some 76) (v := ?_) (a' := ?_) #[true, true, true, true, true, true, true, true, true, true, true, true, true, true, true, true, true, true, true, true, true, true, true, true, true, false] rfl rfl (any_of HT_.out (by kernel_rfl)) (fun _ _ _ h => h) (Or.inl ⟨by rfl, ?_⟩) ?_ ?_
                      rotate_left
                      · intro w'
                        go_simp
                        with_reducible rfl
                      rotate_left
                      · simp only [Act.put, List.setIfInBounds_toArray, List.set_cons_zero, List.set_cons_succ, i64_w, i32_w]
                        rfl
                      refine pure_ (i := 25) (N := some 4) (v := ?_) (a' := ?_) #[true, true, true, true, true, true, true, true, true, true, true, true, true, true, true, true, true, true, true, true, true, true, true, true, true, true] rfl rfl (any_of HT_.out (by kernel_rfl)) (fun _ _ _ h => h) (Or.inl ⟨by rfl, ?_⟩) ?_ ?_
                      rotate_left
                      · intro w'
                        go_simp
                        with_reducible rfl
                      rotate_left
                      · simp only [Act.put, List.setIfInBounds_toArray, List.set_cons_zero, List.set_cons_succ, i64_w, i32_w]
                        rfl
                      refine done_ (done_of HT_.out (by kernel_rfl)) ?_
                      try go_wp2
                      go_ret
                      exact ⟨by first | rfl | (simp [errW_none, errW_some] <;> rfl) | (simp [*, errW_none, errW_some] <;> rfl), by repeat (first | (with_reducible first | exact HB.out | apply below_alloc | apply pw_below_drewN | apply below_drew1) | exact HB.out)⟩
                    · rw [if_neg c29] at H
                      have c29b0 : (t204 == t209) = false := beq_eq_false_iff_ne.mpr c29
                      have c29b1 : (t204 != t209) = true := bne_iff_ne.mpr c29
                      obtain rfl := Option.some.inj H
                      exact absurd hr (by decide)
                  · replace c28 := Bool.eq_false_iff.mpr c28
                    subst c28
                    have H1 : (some false) = some r := by rw [if_neg (show ¬ (false = true) by decide)] at H; exact H
                    clear H
                    have H := H1
                    clear H1
                    obtain rfl := Option.some.inj H
                    exact absurd hr (by decide)
                · rw [if_neg c26] at H
                  have c26b0 : ((strOfNums t213).toList == (strOfNums t216).toList) = false := beq_eq_false_iff_ne.mpr c26
                  have c26b1 : ((strOfNums t213).toList != (strOfNums t216).toList) = true := bne_iff_ne.mpr c26
                  obtain rfl := Option.some.inj H
                  exact absurd hr (by decide)
              · replace c23 := Bool.eq_false_iff.mpr c23
                subst c23
                have H1 : (some false) = some r := by rw [if_neg (show ¬ (false = true) by decide)] at H; exact H
                clear H
                have H := H1
                clear H1
                obtain rfl := Option.some.inj H
                exact absurd hr (by decide)

end Go.Proofs.Ytmifcdmkobammaa.Q
