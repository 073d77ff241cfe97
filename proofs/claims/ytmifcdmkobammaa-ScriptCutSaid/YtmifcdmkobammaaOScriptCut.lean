/- Layer 12: ScriptCut, walked where it answers true. -/
import Derived.Test.YtmifcdmkobammaaQx0
import Derived.Test.YtmifcdmkobammaaY2
import Derived.Test.YtmifcdmkobammaaYh
namespace Go.Proofs.Ytmifcdmkobammaa.Q
open Go.RowKit Go.Proofs.YtmifcdmkobammaaW.PrintWords Go.Proofs.YtmifcdmkobammaaW.PrintLast Go.Proofs.YtmifcdmkobammaaW.PrintMore
open Go.Proofs.Ytmifcdmkobammaa.ScriptWalk (script_Right.f script_Right.calls script_put.f script_put.calls script_Get.f script_Get.calls script_Get.mono)
attribute [local go_sem] max2_int min2_int max_two min_two max_three min_three max_four min_four   -- for this text's walks alone
set_option linter.unusedVariables false
set_option linter.unusedSimpArgs false

/-! ### silhouettelaw12_ScriptCut: function 5 -/
mutual
def silhouettelaw12_ScriptCut.l0 : Nat → List (S31) → Int → Bool → List (S31) → Int → Option (Bool)
  | 0, _, _, _, _, _ => none
  | k + 1, x0, x1, x5, x6, x7 => if x7 < (x0.length : Int) then (silhouettelaw12_ScriptCut.j1 k x0 x1 x5 x6 x7 (decide (x7 < 200))) else (silhouettelaw12_ScriptCut.j1 k x0 x1 x5 x6 x7 false)
def silhouettelaw12_ScriptCut.j1 : Nat → List (S31) → Int → Bool → List (S31) → Int → Bool → Option (Bool)
  | 0, _, _, _, _, _, _ => none
  | k + 1, x0, x1, x5, x6, x7, x23 => if x23 = true then (if 0 ≤ x7 then (if x7 < (x0.length : Int) then ((script_Right.f ((rd_T31 x0 x7).f0) ((rd_T31 x0 x7).f1) ((rd_T31 x0 x7).f2) ((rd_T31 x0 x7).f3) ((rd_T31 x0 x7).f4) ((rd_T31 x0 x7).f5) ((rd_T31 x0 x7).f6)).bind fun t249 => (if t249 = true then (if x6.length < 2513169434916 then (silhouettelaw12_ScriptCut.l0 k x0 x1 x5 (x6 ++ [(⟨(rd_T31 x0 x7).f0, (rd_T31 x0 x7).f1, (rd_T31 x0 x7).f2, (rd_T31 x0 x7).f3, (rd_T31 x0 x7).f4, (rd_T31 x0 x7).f5, (rd_T31 x0 x7).f6⟩ : S31)]) (wrap64 (x7 + 1))) else (none)) else (silhouettelaw12_ScriptCut.l0 k x0 x1 x5 x6 (wrap64 (x7 + 1))))) else (none)) else (none)) else ((script_Put.f k x6).bind fun t254 => (if (t254.length : Int) = 0 then (some x5) else (if 0 ≤ (Int.tmod (wrap64 (x1)) (t254.length : Int)) then (if (Int.tmod (wrap64 (x1)) (t254.length : Int)) ≤ (t254.length : Int) then ((script_Get.f k (t254.take ((Int.tmod (wrap64 (x1)) (t254.length : Int)) : Int).toNat)).bind fun bt261 => (silhouettelaw12_ScriptCut.l1 k x5 x6 (Int.tmod (wrap64 (x1)) (t254.length : Int)) bt261.1 bt261.2.1 bt261.2.2 0 0)) else (none)) else (none))))
def silhouettelaw12_ScriptCut.l1 : Nat → Bool → List (S31) → Int → List (S31) → Int → Int → Int → Int → Option (Bool)
  | 0, _, _, _, _, _, _, _, _ => none
  | k + 1, x5, x6, x9, x10, x11, x12, x13, x14 => if x13 < (x6.length : Int) then (if 0 ≤ x13 then (if x13 ≤ (wrap64 (x13 + 1)) then (if (wrap64 (x13 + 1)) ≤ (x6.length : Int) then ((script_Put.f k ((x6.take ((wrap64 (x13 + 1)) : Int).toNat).drop (x13 : Int).toNat)).bind fun t270 => (if (wrap64 (x14 + (t270.length : Int))) ≤ x9 then ((script_Put.f k ((x6.take ((wrap64 (x13 + 1)) : Int).toNat).drop (x13 : Int).toNat)).bind fun t277 => (silhouettelaw12_ScriptCut.l1 k x5 x6 x9 x10 x11 x12 (wrap64 (x13 + 1)) (wrap64 (x14 + (t277.length : Int))))) else (if x5 = true then (if x13 ≤ (x6.length : Int) then ((silhouetteref12_Same.f k x10 (x6.take (x13 : Int).toNat)).bind fun t284 => (if t284 = true then (if x11 = x14 then (some ((x12 == 0) == (x14 == x9))) else (some false)) else (some false))) else (none)) else (some false)))) else (none)) else (none)) else (none)) else (if x5 = true then (if 0 ≤ x13 then (if x13 ≤ (x6.length : Int) then ((silhouetteref12_Same.f k x10 (x6.take (x13 : Int).toNat)).bind fun t289 => (if t289 = true then (if x11 = x14 then (some ((x12 == 0) == (x14 == x9))) else (some false)) else (some false))) else (none)) else (none)) else (some false))
end
def silhouettelaw12_ScriptCut.f (k : Nat) (l0 : List (S31)) (a1 : Int) : Option (Bool) := (silhouettelaw12_head.f).bind fun t247 => (silhouettelaw12_ScriptCut.l0 k l0 a1 t247 ([] : List (S31)) 0)
theorem silhouettelaw12_ScriptCut.mono_l : ∀ k, (∀ y0 y1 y2 y3 y4, LeO (silhouettelaw12_ScriptCut.l0 k y0 y1 y2 y3 y4) (silhouettelaw12_ScriptCut.l0 (k + 1) y0 y1 y2 y3 y4)) ∧ (∀ y0 y1 y2 y3 y4 y5, LeO (silhouettelaw12_ScriptCut.j1 k y0 y1 y2 y3 y4 y5) (silhouettelaw12_ScriptCut.j1 (k + 1) y0 y1 y2 y3 y4 y5)) ∧ (∀ y0 y1 y2 y3 y4 y5 y6 y7, LeO (silhouettelaw12_ScriptCut.l1 k y0 y1 y2 y3 y4 y5 y6 y7) (silhouettelaw12_ScriptCut.l1 (k + 1) y0 y1 y2 y3 y4 y5 y6 y7))
  | 0 => ⟨fun _ _ _ _ _ r h => by simp [silhouettelaw12_ScriptCut.l0] at h, fun _ _ _ _ _ _ r h => by simp [silhouettelaw12_ScriptCut.j1] at h, fun _ _ _ _ _ _ _ _ r h => by simp [silhouettelaw12_ScriptCut.l1] at h⟩
  | k + 1 => by
    obtain ⟨ih0, ih1, ih2⟩ := silhouettelaw12_ScriptCut.mono_l k
    refine ⟨?_, ?_, ?_⟩
    · intro y0 y1 y2 y3 y4
      unfold silhouettelaw12_ScriptCut.l0
      repeat' first
      | (with_reducible exact ih0 _ _ _ _ _)
      | (with_reducible exact ih1 _ _ _ _ _ _)
      | (with_reducible exact ih2 _ _ _ _ _ _ _ _)
      | (with_reducible exact script_Get.mono _ _)
      | (with_reducible exact script_Put.mono _ _)
      | (with_reducible exact silhouetteref12_Same.mono _ _ _)
      | (with_reducible exact LeO.refl _)
      | (with_reducible exact LeO.none _)
      | (with_reducible refine LeO.ite ?_ ?_)
      | (with_reducible refine LeO.bind ?_ (fun _ => ?_))
      | exact ih0 _ _ _ _ _
      | exact ih1 _ _ _ _ _ _
      | exact ih2 _ _ _ _ _ _ _ _
      | exact script_Get.mono _ _
      | exact script_Put.mono _ _
      | exact silhouetteref12_Same.mono _ _ _
      | exact LeO.none _
      | refine LeO.ite ?_ ?_
      | refine LeO.bind ?_ (fun _ => ?_)
    · intro y0 y1 y2 y3 y4 y5
      unfold silhouettelaw12_ScriptCut.j1
      repeat' first
      | (with_reducible exact ih0 _ _ _ _ _)
      | (with_reducible exact ih1 _ _ _ _ _ _)
      | (with_reducible exact ih2 _ _ _ _ _ _ _ _)
      | (with_reducible exact script_Get.mono _ _)
      | (with_reducible exact script_Put.mono _ _)
      | (with_reducible exact silhouetteref12_Same.mono _ _ _)
      | (with_reducible exact LeO.refl _)
      | (with_reducible exact LeO.none _)
      | (with_reducible refine LeO.ite ?_ ?_)
      | (with_reducible refine LeO.bind ?_ (fun _ => ?_))
      | exact ih0 _ _ _ _ _
      | exact ih1 _ _ _ _ _ _
      | exact ih2 _ _ _ _ _ _ _ _
      | exact script_Get.mono _ _
      | exact script_Put.mono _ _
      | exact silhouetteref12_Same.mono _ _ _
      | exact LeO.none _
      | refine LeO.ite ?_ ?_
      | refine LeO.bind ?_ (fun _ => ?_)
    · intro y0 y1 y2 y3 y4 y5 y6 y7
      unfold silhouettelaw12_ScriptCut.l1
      repeat' first
      | (with_reducible exact ih0 _ _ _ _ _)
      | (with_reducible exact ih1 _ _ _ _ _ _)
      | (with_reducible exact ih2 _ _ _ _ _ _ _ _)
      | (with_reducible exact script_Get.mono _ _)
      | (with_reducible exact script_Put.mono _ _)
      | (with_reducible exact silhouetteref12_Same.mono _ _ _)
      | (with_reducible exact LeO.refl _)
      | (with_reducible exact LeO.none _)
      | (with_reducible refine LeO.ite ?_ ?_)
      | (with_reducible refine LeO.bind ?_ (fun _ => ?_))
      | exact ih0 _ _ _ _ _
      | exact ih1 _ _ _ _ _ _
      | exact ih2 _ _ _ _ _ _ _ _
      | exact script_Get.mono _ _
      | exact script_Put.mono _ _
      | exact silhouetteref12_Same.mono _ _ _
      | exact LeO.none _
      | refine LeO.ite ?_ ?_
      | refine LeO.bind ?_ (fun _ => ?_)
theorem silhouettelaw12_ScriptCut.mono : ∀ a0 a1 k, LeO (silhouettelaw12_ScriptCut.f k a0 a1) (silhouettelaw12_ScriptCut.f (k + 1) a0 a1) := by
  intro a0 a1 k
  obtain ⟨ih0, ih1, ih2⟩ := silhouettelaw12_ScriptCut.mono_l k
  unfold silhouettelaw12_ScriptCut.f
  repeat' first
      | (with_reducible exact ih0 _ _ _ _ _)
      | (with_reducible exact ih1 _ _ _ _ _ _)
      | (with_reducible exact ih2 _ _ _ _ _ _ _ _)
      | (with_reducible exact script_Get.mono _ _)
      | (with_reducible exact script_Put.mono _ _)
      | (with_reducible exact silhouetteref12_Same.mono _ _ _)
      | (with_reducible exact LeO.refl _)
      | (with_reducible exact LeO.none _)
      | (with_reducible refine LeO.ite ?_ ?_)
      | (with_reducible refine LeO.bind ?_ (fun _ => ?_))
      | exact ih0 _ _ _ _ _
      | exact ih1 _ _ _ _ _ _
      | exact ih2 _ _ _ _ _ _ _ _
      | exact script_Get.mono _ _
      | exact script_Put.mono _ _
      | exact silhouetteref12_Same.mono _ _ _
      | exact LeO.none _
      | refine LeO.ite ?_ ?_
      | refine LeO.bind ?_ (fun _ => ?_)
set_option maxHeartbeats 8000000 in
set_option maxRecDepth 100000 in
theorem silhouettelaw12_ScriptCut.calls (k : Nat) (A0 : Option Addr) (c0 : Nat) (l0 : List (S31)) (a1 : Int) (r : Bool) (hr : r = true) (w : World) (hr0 : Kd.C k31 w A0 l0.length l0) (hc0 : l0.length ≤ c0) (h : silhouettelaw12_ScriptCut.f k l0 a1 = some r) :
    Calls Try.prog 5 #[.slice A0 l0.length c0, .int .u16 a1] w fun e w' => e = .returned (.bool r) ∧ Below w.heap.size w w' := by
  have hu31 := Try.underlying31
  have HR0 := Aside0.mk hr0
  have HC0 := Aside0.mk hc0
  clear hr0 hc0
  have HB := Aside0.mk (Below.refl w.heap.size w)
  have H : ((silhouettelaw12_head.f).bind fun t247 => (silhouettelaw12_ScriptCut.l0 k l0 a1 t247 ([] : List (S31)) 0)) = some r := h
  clear h
  replace H := Option.bind_eq_some_iff.mp H
  obtain ⟨t247, A30, H⟩ := H
  replace H : (silhouettelaw12_ScriptCut.l0 k l0 a1 t247 ([] : List (S31)) 0) = some r := H
  have A3 := Aside0.mk A30
  clear A30
  have H' := Aside0.mk H
  clear H
  go_enter Try.func5, Try.ntmps5
  go_wp2_with (first | ((with_reducible refine gate_callee (f := 10) rfl ?_); refine goesL_ (some 15) rfl rfl Try.func10 (by kernel_rfl) rfl #[] rfl (by (try simp only [List.map_toArray, List.map_cons, List.map_nil]); first | done | rfl | (simp only [List.length_drop, List.length_take]; rfl)) ?_; (with_reducible refine (silhouettelaw12_head.calls  t247 _ A3.out).mono ?_); rintro e w4 ⟨rfl, hb⟩; refine ⟨_, rfl, ?_⟩; have n0_ := Aside0.mk (below_step (by repeat (first | (with_reducible first | exact HB.out | apply below_alloc | apply pw_below_drewN | apply below_drew1) | exact HB.out)) hb); clear HB; have HB := n0_; clear n0_; (try clear hb); (try clear hb2); (try clear hk); (try clear hi)))
  go_loopg [6, 7] k (fun kq v6 v7 w' => ∃ (x6_1 : List (S31)) (x7_1 : Int), v7 = .int .i64 x7_1 ∧ Aside0 (silhouettelaw12_ScriptCut.l0 kq l0 a1 t247 x6_1 x7_1 = some r) ∧ Aside0 (kq ≤ k) ∧ Aside0 (Kd.R k31 31 w' w.heap.size (fun _ => True) v6 x6_1) ∧ Aside0 (Below w.heap.size w w'))
  case atStart => exact ⟨(([] : List (S31))), (0), (by first | rfl | (simp; done) | (simp [*]; done)), H', ⟨Nat.le_refl _⟩, ⟨by first | exact Kd.R_nil _ _ _ _ _ | exact Kd.N_nil _ _ _ _ _ | exact Kd.V_nil _ _ _ _ _ | exact Kd.Q_nil _ _ _ _ _ | exact Kd.S_nil _ _ _ _ _⟩, ⟨by repeat (first | (with_reducible first | exact HB.out | apply below_alloc | apply pw_below_drewN | apply below_drew1) | exact HB.out)⟩⟩
  case round =>
    clear H'
    try clear c1
    try clear p2
    obtain ⟨x6_1, x7_1, rfl, HA, HK1, HO_6, HB⟩ := hrel
    cases gk with
    | zero => exact absurd HA.out (by simp [silhouettelaw12_ScriptCut.l0])
    | succ k1 =>
      have H := HA.out
      clear HA
      simp only [silhouettelaw12_ScriptCut.l0] at H
      have HC5 := Aside0.mk H
      clear H
      go_upto_region 4 with (fail)
      go_cut [23] (fun v23 wc => ∃ (kq : Nat) (x23_4 : Bool), v23 = .bool x23_4 ∧ Aside0 (silhouettelaw12_ScriptCut.j1 kq l0 a1 t247 x6_1 x7_1 x23_4 = some r) ∧ Aside0 (kq ≤ k1) ∧ Aside0 (Kd.R k31 31 wc w.heap.size (fun _ => True) u6 x6_1) ∧ Aside0 (Below w.heap.size w wc))
      case first =>
        have H := HC5.out
        clear HC5
        by_cases c6 : x7_1 < (l0.length : Int)
        · rw [if_pos c6] at H
          have c6b0 : decide (x7_1 < (l0.length : Int)) = true := decide_eq_true c6
          clear c6
          (first | rw [c6b0] | (simp only [i64_w, i32_w]; rw [c6b0]) | skip)
          have H' := Aside0.mk H
          clear H
          go_wp2
          go_meet
          case rel => exact ⟨_, (decide (x7_1 < 200)), (by first | rfl | (simp; done) | (simp [*]; done)), H', ⟨by have := HK1.out; first | omega | exact Nat.le_refl _⟩, ⟨by (with_reducible repeat (first | apply Kd.R_alloc | apply Kd.R_drewN | apply Kd.R_drew)); exact HO_6.out⟩, ⟨by repeat (first | (with_reducible first | exact HB.out | apply below_alloc | apply pw_below_drewN | apply below_drew1) | exact HB.out)⟩⟩
        · rw [if_neg c6] at H
          have c6b0 : decide (x7_1 < (l0.length : Int)) = false := decide_eq_false c6
          clear c6
          (first | rw [c6b0] | (simp only [i64_w, i32_w]; rw [c6b0]) | skip)
          have H' := Aside0.mk H
          clear H
          go_wp2
          go_meet
          case rel => exact ⟨_, (false), (by first | rfl | (simp; done) | (simp [*]; done)), H', ⟨by have := HK1.out; first | omega | exact Nat.le_refl _⟩, ⟨by (with_reducible repeat (first | apply Kd.R_alloc | apply Kd.R_drewN | apply Kd.R_drew)); exact HO_6.out⟩, ⟨by repeat (first | (with_reducible first | exact HB.out | apply below_alloc | apply pw_below_drewN | apply below_drew1) | exact HB.out)⟩⟩
      case rest =>
        clear HC5
        try clear c1
        try clear p2
        try clear c5
        try clear c6
        try clear c6b0
        try clear p2
        obtain ⟨kq, x23_4, rfl, HA, HJ4, HO_6, HB⟩ := hcut
        cases kq with
        | zero => exact absurd HA.out (by simp [silhouettelaw12_ScriptCut.j1])
        | succ kj4 =>
          have H := HA.out
          clear HA
          simp only [silhouettelaw12_ScriptCut.j1] at H
          by_cases c7 : x23_4 = true
          · subst c7
            have H1 : (if 0 ≤ x7_1 then (if x7_1 < (l0.length : Int) then ((script_Right.f ((rd_T31 l0 x7_1).f0) ((rd_T31 l0 x7_1).f1) ((rd_T31 l0 x7_1).f2) ((rd_T31 l0 x7_1).f3) ((rd_T31 l0 x7_1).f4) ((rd_T31 l0 x7_1).f5) ((rd_T31 l0 x7_1).f6)).bind fun t249 => (if t249 = true then (if x6_1.length < 2513169434916 then (silhouettelaw12_ScriptCut.l0 kj4 l0 a1 t247 (x6_1 ++ [(⟨(rd_T31 l0 x7_1).f0, (rd_T31 l0 x7_1).f1, (rd_T31 l0 x7_1).f2, (rd_T31 l0 x7_1).f3, (rd_T31 l0 x7_1).f4, (rd_T31 l0 x7_1).f5, (rd_T31 l0 x7_1).f6⟩ : S31)]) (wrap64 (x7_1 + 1))) else (none)) else (silhouettelaw12_ScriptCut.l0 kj4 l0 a1 t247 x6_1 (wrap64 (x7_1 + 1))))) else (none)) else (none)) = some r := by rw [if_pos rfl] at H; exact H
            clear H
            have H := H1
            clear H1
            by_cases c8 : 0 ≤ x7_1
            · rw [if_pos c8] at H
              have c8b0 : decide (0 ≤ x7_1) = true := decide_eq_true c8
              clear c8
              by_cases c9 : x7_1 < (l0.length : Int)
              · rw [if_pos c9] at H
                have c9b0 : decide (x7_1 < (l0.length : Int)) = true := decide_eq_true c9
                clear c9
                replace H := Option.bind_eq_some_iff.mp H
                obtain ⟨t249, A100, H⟩ := H
                replace H : (if t249 = true then (if x6_1.length < 2513169434916 then (silhouettelaw12_ScriptCut.l0 kj4 l0 a1 t247 (x6_1 ++ [(⟨(rd_T31 l0 x7_1).f0, (rd_T31 l0 x7_1).f1, (rd_T31 l0 x7_1).f2, (rd_T31 l0 x7_1).f3, (rd_T31 l0 x7_1).f4, (rd_T31 l0 x7_1).f5, (rd_T31 l0 x7_1).f6⟩ : S31)]) (wrap64 (x7_1 + 1))) else (none)) else (silhouettelaw12_ScriptCut.l0 kj4 l0 a1 t247 x6_1 (wrap64 (x7_1 + 1)))) = some r := H
                have A10 := Aside0.mk A100
                clear A100
                by_cases c11 : t249 = true
                · subst c11
                  have H1 : (if x6_1.length < 2513169434916 then (silhouettelaw12_ScriptCut.l0 kj4 l0 a1 t247 (x6_1 ++ [(⟨(rd_T31 l0 x7_1).f0, (rd_T31 l0 x7_1).f1, (rd_T31 l0 x7_1).f2, (rd_T31 l0 x7_1).f3, (rd_T31 l0 x7_1).f4, (rd_T31 l0 x7_1).f5, (rd_T31 l0 x7_1).f6⟩ : S31)]) (wrap64 (x7_1 + 1))) else (none)) = some r := by rw [if_pos rfl] at H; exact H
                  clear H
                  have H := H1
                  clear H1
                  by_cases c12 : x6_1.length < 2513169434916
                  · rw [if_pos c12] at H
                    have LMc12 := Aside0.mk c12
                    clear c12
                    obtain ⟨y251, hy251⟩ : ∃ y_ : List (S31), y_ = (x6_1 ++ [(⟨(rd_T31 l0 x7_1).f0, (rd_T31 l0 x7_1).f1, (rd_T31 l0 x7_1).f2, (rd_T31 l0 x7_1).f3, (rd_T31 l0 x7_1).f4, (rd_T31 l0 x7_1).f5, (rd_T31 l0 x7_1).f6⟩ : S31)]) := ⟨_, rfl⟩
                    replace H : (silhouettelaw12_ScriptCut.l0 kj4 l0 a1 t247 y251 (wrap64 (x7_1 + 1))) = some r := by first | (rw [hy251]; with_reducible exact H) | (have H2_ := (Option.bind_some _ _).symm.trans H; rw [hy251]; with_reducible exact H2_) | (have H2_ := (Option.bind_some _ _).symm.trans H; with_reducible exact H2_) | with_reducible exact H | (rw [hy251]; exact H) | exact H
                    have Ny251 := Aside0.mk hy251
                    clear hy251
                    have H' := Aside0.mk H
                    clear H
                    have p248 : 0 ≤ (x7_1 : Int) := of_decide_eq_true (by first | (with_reducible assumption) | assumption)
                    have q248 : x7_1 < (l0.length : Int) := of_decide_eq_true (by first | (with_reducible assumption) | assumption)
                    obtain ⟨ad248, e248, hx248_0, hx248_1, hx248_2, hx248_3, hx248_4, hx248_5, hx248_6⟩ := at_T31 HR0.out x7_1 p248 q248
                    cases e248
                    replace hx248_0 := (HB.out.cell (World.block_lt_of_cell? w _ hx248_0)).trans hx248_0
                    replace hx248_1 := (HB.out.cell (World.block_lt_of_cell? w _ hx248_1)).trans hx248_1
                    replace hx248_2 := (HB.out.cell (World.block_lt_of_cell? w _ hx248_2)).trans hx248_2
                    replace hx248_3 := (HB.out.cell (World.block_lt_of_cell? w _ hx248_3)).trans hx248_3
                    replace hx248_4 := (HB.out.cell (World.block_lt_of_cell? w _ hx248_4)).trans hx248_4
                    replace hx248_5 := (HB.out.cell (World.block_lt_of_cell? w _ hx248_5)).trans hx248_5
                    replace hx248_6 := (HB.out.cell (World.block_lt_of_cell? w _ hx248_6)).trans hx248_6
                    replace p248 := eq_true p248
                    replace q248 := eq_true q248
                    go_wp2_with (first | ((with_reducible refine gate_callee (f := 13) rfl ?_); refine goesL_ (some 30) rfl rfl Try.func13 (by kernel_rfl) rfl #[.agg #[.int .i64 ((rd_T31 l0 x7_1).f0), .bool ((rd_T31 l0 x7_1).f1), .int .u64 ((rd_T31 l0 x7_1).f2), .int .u64 ((rd_T31 l0 x7_1).f3), .int .i64 ((rd_T31 l0 x7_1).f4), .int .i64 ((rd_T31 l0 x7_1).f5), .int .i64 ((rd_T31 l0 x7_1).f6)]] rfl (by (try simp only [List.map_toArray, List.map_cons, List.map_nil]); first | done | rfl | (simp only [List.length_drop, List.length_take]; rfl)) ?_; (with_reducible refine (script_Right.calls ((rd_T31 l0 x7_1).f0) ((rd_T31 l0 x7_1).f1) ((rd_T31 l0 x7_1).f2) ((rd_T31 l0 x7_1).f3) ((rd_T31 l0 x7_1).f4) ((rd_T31 l0 x7_1).f5) ((rd_T31 l0 x7_1).f6) true _ A10.out).mono ?_); rintro e w13 ⟨rfl, hb⟩; refine ⟨_, rfl, ?_⟩; have n0_ := Aside0.mk (Kd.R_below (by (with_reducible repeat (first | apply Kd.R_alloc | apply Kd.R_drewN | apply Kd.R_drew)); exact HO_6.out) hb); have n1_ := Aside0.mk (below_step (by repeat (first | (with_reducible first | exact HB.out | apply below_alloc | apply pw_below_drewN | apply below_drew1) | exact HB.out)) hb); clear HO_6; clear HB; have HO_6 := n0_; have HB := n1_; clear n0_ n1_; (try clear hb); (try clear hb2); (try clear hk); (try clear hi); have p250 : 0 ≤ (x7_1 : Int) := of_decide_eq_true (by first | (with_reducible assumption) | assumption); have q250 : x7_1 < (l0.length : Int) := of_decide_eq_true (by first | (with_reducible assumption) | assumption); obtain ⟨ad250, e250, hx250_0, hx250_1, hx250_2, hx250_3, hx250_4, hx250_5, hx250_6⟩ := at_T31 HR0.out x7_1 p250 q250; obtain rfl : ad248 = ad250 := (by injection e250); replace hx250_0 := (HB.out.cell (World.block_lt_of_cell? w _ hx250_0)).trans hx250_0; replace hx250_1 := (HB.out.cell (World.block_lt_of_cell? w _ hx250_1)).trans hx250_1; replace hx250_2 := (HB.out.cell (World.block_lt_of_cell? w _ hx250_2)).trans hx250_2; replace hx250_3 := (HB.out.cell (World.block_lt_of_cell? w _ hx250_3)).trans hx250_3; replace hx250_4 := (HB.out.cell (World.block_lt_of_cell? w _ hx250_4)).trans hx250_4; replace hx250_5 := (HB.out.cell (World.block_lt_of_cell? w _ hx250_5)).trans hx250_5; replace hx250_6 := (HB.out.cell (World.block_lt_of_cell? w _ hx250_6)).trans hx250_6; replace p250 := eq_true p250; replace q250 := eq_true q250) | ((with_reducible refine gate_builtin (b := .append) (xs := #[.tmp 31, .tmp 36]) rfl ?_); (try (refine gate_guard (by rfl) ?_; dsimp only)); at_builtin; refine Kd.R_append k31 (w0 := w) w.heap.size rfl (.tmp 31) (.tmp 36) 22 31 (.agg #[(.int .i64 0), (.bool false), (.int .u64 0), (.int .u64 0), (.int .i64 0), (.int .i64 0), (.int .i64 0)]) 56 rfl Try.underlying22 info31 rfl (by decide) (by omega) u6 x6_1 (⟨(rd_T31 l0 x7_1).f0, (rd_T31 l0 x7_1).f1, (rd_T31 l0 x7_1).f2, (rd_T31 l0 x7_1).f3, (rd_T31 l0 x7_1).f4, (rd_T31 l0 x7_1).f5, (rd_T31 l0 x7_1).f6⟩ : S31) [.int .i64 ((rd_T31 l0 x7_1).f0), .bool ((rd_T31 l0 x7_1).f1), .int .u64 ((rd_T31 l0 x7_1).f2), .int .u64 ((rd_T31 l0 x7_1).f3), .int .i64 ((rd_T31 l0 x7_1).f4), .int .i64 ((rd_T31 l0 x7_1).f5), .int .i64 ((rd_T31 l0 x7_1).f6)] (fun _ => True) (fun _ => False) rfl rfl ?aP (fun _ hk => hk.elim) ?aF ?aO ?aB ?aS ?aL ?_; (case aP => exact k31_mkM _ _ _ (⟨(rd_T31 l0 x7_1).f0, (rd_T31 l0 x7_1).f1, (rd_T31 l0 x7_1).f2, (rd_T31 l0 x7_1).f3, (rd_T31 l0 x7_1).f4, (rd_T31 l0 x7_1).f5, (rd_T31 l0 x7_1).f6⟩ : S31)); (case aB => exact (by repeat (first | (with_reducible first | exact HB.out | apply below_alloc | apply pw_below_drewN | apply below_drew1) | exact HB.out))); (case aF => exact (fun _ _ => trivial)); (case aO => exact (by (with_reducible repeat (first | apply Kd.R_alloc | apply Kd.R_drewN | apply Kd.R_drew)); exact HO_6.out)); (case aS => exact (below_size (by repeat (first | (with_reducible first | exact HB.out | apply below_alloc | apply pw_below_drewN | apply below_drew1) | exact HB.out)))); (case aL => have := LMc12.out; omega); intro v252 w14 ho hb hg hat; rw [← Ny251.out] at ho; have n0_ := Aside0.mk (hb); have n1_ := Aside0.mk (ho); clear HB; clear HO_6; have HB := n0_; have HO253 := n1_; clear n0_ n1_; clear ho hb hg hat))
                    go_roundg kj4
                    case measure => have := HK1.out; have := HJ4.out; omega
                    case rel => exact ⟨(y251), (wrap64 (x7_1 + 1)), (by first | rfl | (simp; done) | (simp [*]; done)), H', ⟨by have := HK1.out; have := HJ4.out; omega⟩, ⟨by (with_reducible repeat (first | apply Kd.R_alloc | apply Kd.R_drewN | apply Kd.R_drew)); exact HO253.out⟩, ⟨by repeat (first | (with_reducible first | exact HB.out | apply below_alloc | apply pw_below_drewN | apply below_drew1) | exact HB.out)⟩⟩
                  · rw [if_neg c12] at H
                    exact absurd H (by simp)
                · replace c11 := Bool.eq_false_iff.mpr c11
                  subst c11
                  have H1 : (silhouettelaw12_ScriptCut.l0 kj4 l0 a1 t247 x6_1 (wrap64 (x7_1 + 1))) = some r := by rw [if_neg (show ¬ (false = true) by decide)] at H; exact H
                  clear H
                  have H := H1
                  clear H1
                  have H' := Aside0.mk H
                  clear H
                  have p248 : 0 ≤ (x7_1 : Int) := of_decide_eq_true (by first | (with_reducible assumption) | assumption)
                  have q248 : x7_1 < (l0.length : Int) := of_decide_eq_true (by first | (with_reducible assumption) | assumption)
                  obtain ⟨ad248, e248, hx248_0, hx248_1, hx248_2, hx248_3, hx248_4, hx248_5, hx248_6⟩ := at_T31 HR0.out x7_1 p248 q248
                  cases e248
                  replace hx248_0 := (HB.out.cell (World.block_lt_of_cell? w _ hx248_0)).trans hx248_0
                  replace hx248_1 := (HB.out.cell (World.block_lt_of_cell? w _ hx248_1)).trans hx248_1
                  replace hx248_2 := (HB.out.cell (World.block_lt_of_cell? w _ hx248_2)).trans hx248_2
                  replace hx248_3 := (HB.out.cell (World.block_lt_of_cell? w _ hx248_3)).trans hx248_3
                  replace hx248_4 := (HB.out.cell (World.block_lt_of_cell? w _ hx248_4)).trans hx248_4
                  replace hx248_5 := (HB.out.cell (World.block_lt_of_cell? w _ hx248_5)).trans hx248_5
                  replace hx248_6 := (HB.out.cell (World.block_lt_of_cell? w _ hx248_6)).trans hx248_6
                  replace p248 := eq_true p248
                  replace q248 := eq_true q248
                  go_wp2_with (first | ((with_reducible refine gate_callee (f := 13) rfl ?_); refine goesL_ (some 30) rfl rfl Try.func13 (by kernel_rfl) rfl #[.agg #[.int .i64 ((rd_T31 l0 x7_1).f0), .bool ((rd_T31 l0 x7_1).f1), .int .u64 ((rd_T31 l0 x7_1).f2), .int .u64 ((rd_T31 l0 x7_1).f3), .int .i64 ((rd_T31 l0 x7_1).f4), .int .i64 ((rd_T31 l0 x7_1).f5), .int .i64 ((rd_T31 l0 x7_1).f6)]] rfl (by (try simp only [List.map_toArray, List.map_cons, List.map_nil]); first | done | rfl | (simp only [List.length_drop, List.length_take]; rfl)) ?_; (with_reducible refine (script_Right.calls ((rd_T31 l0 x7_1).f0) ((rd_T31 l0 x7_1).f1) ((rd_T31 l0 x7_1).f2) ((rd_T31 l0 x7_1).f3) ((rd_T31 l0 x7_1).f4) ((rd_T31 l0 x7_1).f5) ((rd_T31 l0 x7_1).f6) false _ A10.out).mono ?_); rintro e w15 ⟨rfl, hb⟩; refine ⟨_, rfl, ?_⟩; have n0_ := Aside0.mk (Kd.R_below (by (with_reducible repeat (first | apply Kd.R_alloc | apply Kd.R_drewN | apply Kd.R_drew)); exact HO_6.out) hb); have n1_ := Aside0.mk (below_step (by repeat (first | (with_reducible first | exact HB.out | apply below_alloc | apply pw_below_drewN | apply below_drew1) | exact HB.out)) hb); clear HO_6; clear HB; have HO_6 := n0_; have HB := n1_; clear n0_ n1_; (try clear hb); (try clear hb2); (try clear hk); (try clear hi)))
                  go_roundg kj4
                  case measure => have := HK1.out; have := HJ4.out; omega
                  case rel => exact ⟨(x6_1), (wrap64 (x7_1 + 1)), (by first | rfl | (simp; done) | (simp [*]; done)), H', ⟨by have := HK1.out; have := HJ4.out; omega⟩, ⟨by (with_reducible repeat (first | apply Kd.R_alloc | apply Kd.R_drewN | apply Kd.R_drew)); exact HO_6.out⟩, ⟨by repeat (first | (with_reducible first | exact HB.out | apply below_alloc | apply pw_below_drewN | apply below_drew1) | exact HB.out)⟩⟩
              · rw [if_neg c9] at H
                exact absurd H (by simp)
            · rw [if_neg c8] at H
              exact absurd H (by simp)
          · replace c7 := Bool.eq_false_iff.mpr c7
            subst c7
            have H1 : ((script_Put.f kj4 x6_1).bind fun t254 => (if (t254.length : Int) = 0 then (some t247) else (if 0 ≤ (Int.tmod (wrap64 (a1)) (t254.length : Int)) then (if (Int.tmod (wrap64 (a1)) (t254.length : Int)) ≤ (t254.length : Int) then ((script_Get.f kj4 (t254.take ((Int.tmod (wrap64 (a1)) (t254.length : Int)) : Int).toNat)).bind fun bt261 => (silhouettelaw12_ScriptCut.l1 kj4 t247 x6_1 (Int.tmod (wrap64 (a1)) (t254.length : Int)) bt261.1 bt261.2.1 bt261.2.2 0 0)) else (none)) else (none)))) = some r := by rw [if_neg (show ¬ (false = true) by decide)] at H; exact H
            clear H
            have H := H1
            clear H1
            replace H := Option.bind_eq_some_iff.mp H
            obtain ⟨t254, A160, H⟩ := H
            replace H : (if (t254.length : Int) = 0 then (some t247) else (if 0 ≤ (Int.tmod (wrap64 (a1)) (t254.length : Int)) then (if (Int.tmod (wrap64 (a1)) (t254.length : Int)) ≤ (t254.length : Int) then ((script_Get.f kj4 (t254.take ((Int.tmod (wrap64 (a1)) (t254.length : Int)) : Int).toNat)).bind fun bt261 => (silhouettelaw12_ScriptCut.l1 kj4 t247 x6_1 (Int.tmod (wrap64 (a1)) (t254.length : Int)) bt261.1 bt261.2.1 bt261.2.2 0 0)) else (none)) else (none))) = some r := H
            have A16 := Aside0.mk A160
            clear A160
            by_cases c17 : (t254.length : Int) = 0
            · rw [if_pos c17] at H
              have c17b0 : ((t254.length : Int) == 0) = true := beq_iff_eq.mpr c17
              have c17b1 : ((t254.length : Int) != 0) = false := bne_eq_false_iff_eq.mpr c17
              clear c17
              obtain rfl := Option.some.inj H
              obtain ⟨Ao18, co18, eo18⟩ := Kd.R_slice HO_6.out
              subst eo18
              go_wp2_with (first | ((with_reducible refine gate_callee (f := 15) rfl ?_); refine goesL_ (some 39) rfl rfl Try.func15 (by kernel_rfl) rfl #[.slice Ao18 x6_1.length co18] rfl (by (try simp only [List.map_toArray, List.map_cons, List.map_nil]); first | done | rfl | (simp only [List.length_drop, List.length_take]; rfl)) ?_; (with_reducible refine (script_Put.calls kj4 _ _ x6_1 t254 _ ?side1 ?side2 A16.out).mono ?_); (case side1 => repeat (first | exact (Kd.R_reads' HO_6.out).2.2 | (with_reducible refine Kd.C_alloc ?_ _) | (with_reducible refine Kd.C_drewN ?_ _) | (with_reducible refine Kd.C_drew ?_))); (case side2 => exact (Kd.R_reads' HO_6.out).2.1); rintro e w19 ⟨v255, rfl, ho0, hb⟩; refine ⟨_, rfl, ?_⟩; have n0_ := Aside0.mk (Kd.R_below (by (with_reducible repeat (first | apply Kd.R_alloc | apply Kd.R_drewN | apply Kd.R_drew)); exact HO_6.out) hb); have n1_ := Aside0.mk (Kd.R_lower ho0 (below_size (by repeat (first | (with_reducible first | exact HB.out | apply below_alloc | apply pw_below_drewN | apply below_drew1) | exact HB.out)))); have n2_ := Aside0.mk (below_step (by repeat (first | (with_reducible first | exact HB.out | apply below_alloc | apply pw_below_drewN | apply below_drew1) | exact HB.out)) hb); clear HO_6; clear HB; have HO_6 := n0_; have HO256 := n1_; have HB := n2_; clear n0_ n1_ n2_; (try clear hb); (try clear hb2); (try clear hk); (try clear hi); (try clear ho0); obtain ⟨Ao20, co20, eo20⟩ := Kd.R_slice HO256.out; subst eo20))
              go_ret
              exact ⟨by first | rfl | (simp [errW_none, errW_some] <;> rfl) | (simp [*, errW_none, errW_some] <;> rfl), by repeat (first | (with_reducible first | exact HB.out | apply below_alloc | apply pw_below_drewN | apply below_drew1) | exact HB.out)⟩
            · rw [if_neg c17] at H
              have c17b0 : ((t254.length : Int) == 0) = false := beq_eq_false_iff_ne.mpr c17
              have c17b1 : ((t254.length : Int) != 0) = true := bne_iff_ne.mpr c17
              have c17b2 : ¬ (t254 = []) := fun h_ => c17 (by rw [h_]; rfl)
              obtain ⟨ji21, hji21⟩ : ∃ j_ : Int, (Int.tmod (wrap64 (a1)) (t254.length : Int)) = j_ := ⟨_, rfl⟩
              replace H : (if 0 ≤ (ji21) then (if (ji21) ≤ (t254.length : Int) then ((script_Get.f kj4 (t254.take ((ji21) : Int).toNat)).bind fun bt261 => (silhouettelaw12_ScriptCut.l1 kj4 t247 x6_1 ji21 bt261.1 bt261.2.1 bt261.2.2 0 0)) else (none)) else (none)) = some r := by first | (rw [hji21] at H; exact H) | (simp only [hji21] at H ⊢; exact H)
              (try rw [hji21] at A16)
              by_cases c22 : 0 ≤ (ji21)
              · rw [if_pos c22] at H
                have c22b0 := eq_true c22
                have c22b1 : decide (0 ≤ (ji21)) = true := decide_eq_true c22
                clear c22
                by_cases c23 : (ji21) ≤ (t254.length : Int)
                · rw [if_pos c23] at H
                  have c23b0 := eq_true c23
                  have c23b1 : decide ((ji21) ≤ (t254.length : Int)) = true := decide_eq_true c23
                  clear c23
                  obtain ⟨y257, hy257⟩ : ∃ y_ : List Int, y_ = (t254.take ((ji21) : Int).toNat) := ⟨_, rfl⟩
                  replace H : ((script_Get.f kj4 y257).bind fun bt261 => (silhouettelaw12_ScriptCut.l1 kj4 t247 x6_1 ji21 bt261.1 bt261.2.1 bt261.2.2 0 0)) = some r := by first | (rw [hy257]; with_reducible exact H) | (have H2_ := (Option.bind_some _ _).symm.trans H; rw [hy257]; with_reducible exact H2_) | (have H2_ := (Option.bind_some _ _).symm.trans H; with_reducible exact H2_) | with_reducible exact H | (rw [hy257]; exact H) | exact H
                  have Ny257 := Aside0.mk hy257
                  clear hy257
                  replace H := Option.bind_eq_some_iff.mp H
                  obtain ⟨⟨t261, t262, t263⟩, A240, H⟩ := H
                  replace H : (silhouettelaw12_ScriptCut.l1 kj4 t247 x6_1 ji21 t261 t262 t263 0 0) = some r := H
                  have A24 := Aside0.mk A240
                  clear A240
                  have H' := Aside0.mk H
                  clear H
                  obtain ⟨Ao25, co25, eo25⟩ := Kd.R_slice HO_6.out
                  subst eo25
                  go_wp2_with (first | ((with_reducible refine gate_callee (f := 15) rfl ?_); refine goesL_ (some 39) rfl rfl Try.func15 (by kernel_rfl) rfl #[.slice Ao25 x6_1.length co25] rfl (by (try simp only [List.map_toArray, List.map_cons, List.map_nil]); first | done | rfl | (simp only [List.length_drop, List.length_take]; rfl)) ?_; (with_reducible refine (script_Put.calls kj4 _ _ x6_1 t254 _ ?side1 ?side2 A16.out).mono ?_); (case side1 => repeat (first | exact (Kd.R_reads' HO_6.out).2.2 | (with_reducible refine Kd.C_alloc ?_ _) | (with_reducible refine Kd.C_drewN ?_ _) | (with_reducible refine Kd.C_drew ?_))); (case side2 => exact (Kd.R_reads' HO_6.out).2.1); rintro e w26 ⟨v255, rfl, ho0, hb⟩; refine ⟨_, rfl, ?_⟩; have n0_ := Aside0.mk (Kd.R_below (by (with_reducible repeat (first | apply Kd.R_alloc | apply Kd.R_drewN | apply Kd.R_drew)); exact HO_6.out) hb); have n1_ := Aside0.mk (Kd.R_lower ho0 (below_size (by repeat (first | (with_reducible first | exact HB.out | apply below_alloc | apply pw_below_drewN | apply below_drew1) | exact HB.out)))); have n2_ := Aside0.mk (below_step (by repeat (first | (with_reducible first | exact HB.out | apply below_alloc | apply pw_below_drewN | apply below_drew1) | exact HB.out)) hb); clear HO_6; clear HB; have HO_6 := n0_; have HO256 := n1_; have HB := n2_; clear n0_ n1_ n2_; (try clear hb); (try clear hb2); (try clear hk); (try clear hi); (try clear ho0); obtain ⟨Ao27, co27, eo27⟩ := Kd.R_slice HO256.out; subst eo27; have q28 : ((ji21) : Int) ≤ ((t254.length : Int) : Int) := of_decide_eq_true (by first | (with_reducible assumption) | assumption); obtain ⟨i028, hi028, _, hsz28, _⟩ := info_parts info5; have hroom28 : t254.length ≤ co27 := (Kd.R_reads' HO256.out).2.1; have hC28 : Kd.C (Kd.int .u8) _ Ao27 t254.length t254 := (Kd.R_reads' HO256.out).2.2; have hcut28 := cut_to (P := Try.prog) 23 5 .i64 Try.underlying23 hi028 Ao27 t254.length co27 (ji21) (of_decide_eq_true (by first | (with_reducible assumption) | assumption)) q28 hroom28; have hr28 := Kd.C_take (m := ((ji21) : Int).toNat) hC28 (by omega); have hy28 : y257.length = ((ji21) : Int).toNat := (by rw [Ny257.out, List.length_take]; omega); rw [← Ny257.out] at hr28; rw [← hy28] at hcut28; have HR260 := Aside0.mk hr28; have HC260 := Aside0.mk (show y257.length ≤ co27 from by omega); clear hr28 hC28 hroom28 hi028 hsz28; have KY28 := Aside0.mk hy28; clear hy28; have KL28 := Aside0.mk (show ((ji21) : Int).toNat ≤ t254.length from by omega); replace q28 := eq_true q28) | ((with_reducible refine gate_callee (f := 11) rfl ?_); refine goesL_ (some 53) rfl rfl Try.func11 (by kernel_rfl) rfl #[.slice Ao27 y257.length co27] rfl (by (try simp only [List.map_toArray, List.map_cons, List.map_nil]); first | done | rfl | (simp only [List.length_drop, List.length_take]; rfl)) ?_; (with_reducible refine (script_Get.calls kj4 _ _ y257 t261 t262 t263 _ ?side1 ?side2 A24.out).mono ?_); (case side1 => repeat (first | exact (by repeat (first | (with_reducible exact HR260.out) | (with_reducible refine Kd.C_alloc ?_ _) | (with_reducible refine Kd.C_drewN ?_ _) | (with_reducible refine Kd.C_drew ?_) | exact HR260.out)) | (with_reducible refine Kd.C_alloc ?_ _) | (with_reducible refine Kd.C_drewN ?_ _) | (with_reducible refine Kd.C_drew ?_))); (case side2 => exact HC260.out); rintro e w29 ⟨v264, rfl, ho0, hb⟩; refine ⟨_, rfl, ?_⟩; have n0_ := Aside0.mk (Kd.R_elder' (by (with_reducible repeat (first | apply Kd.R_alloc | apply Kd.R_drewN | apply Kd.R_drew)); exact HO_6.out) (Kd.R_base ho0) hb); have n1_ := Aside0.mk (Kd.R_below (by (with_reducible repeat (first | apply Kd.R_alloc | apply Kd.R_drewN | apply Kd.R_drew)); exact HO256.out) hb); have n2_ := Aside0.mk (Kd.R_lower (Kd.R_new' ho0 (Kd.R_lt (by (with_reducible repeat (first | apply Kd.R_alloc | apply Kd.R_drewN | apply Kd.R_drew)); exact HO_6.out))) (below_size (by repeat (first | (with_reducible first | exact HB.out | apply below_alloc | apply pw_below_drewN | apply below_drew1) | exact HB.out)))); have n3_ := Aside0.mk (Kd.C_below (by repeat (first | (with_reducible exact HR260.out) | (with_reducible refine Kd.C_alloc ?_ _) | (with_reducible refine Kd.C_drewN ?_ _) | (with_reducible refine Kd.C_drew ?_) | exact HR260.out)) hb); have n4_ := Aside0.mk (below_step (by repeat (first | (with_reducible first | exact HB.out | apply below_alloc | apply pw_below_drewN | apply below_drew1) | exact HB.out)) hb); clear HO_6; clear HO256; clear HR260; clear HB; have HO_6 := n0_; have HO256 := n1_; have HO265 := n2_; have HR260 := n3_; have HB := n4_; clear n0_ n1_ n2_ n3_ n4_; (try clear hb); (try clear hb2); (try clear hk); (try clear hi); (try clear ho0)))
                  go_loopg [13, 14] kj4 (fun kq v13 v14 w' => ∃ (x13_3 : Int) (x14_3 : Int), v13 = .int .i64 x13_3 ∧ v14 = .int .i64 x14_3 ∧ Aside0 (silhouettelaw12_ScriptCut.l1 kq t247 x6_1 ji21 t261 t262 t263 x13_3 x14_3 = some r) ∧ Aside0 (kq ≤ kj4) ∧ Aside0 (Kd.R k31 31 w' w.heap.size (fun k_ => some k_ ≠ (v264 : Value).ownBlock) (.slice Ao25 x6_1.length co25) x6_1) ∧ Aside0 (Kd.R k31 31 w' w.heap.size (fun k_ => some k_ ≠ ((.slice Ao25 x6_1.length co25) : Value).ownBlock) v264 t261) ∧ Aside0 (Kd.C (Kd.int .u8) w' Ao27 y257.length y257) ∧ Aside0 (Below w.heap.size w w'))
                  case atStart => exact ⟨(0), (0), (by first | rfl | (simp; done) | (simp [*]; done)), (by first | rfl | (simp; done) | (simp [*]; done)), H', ⟨Nat.le_refl _⟩, ⟨by (with_reducible repeat (first | apply Kd.R_alloc | apply Kd.R_drewN | apply Kd.R_drew)); exact Kd.R_mono HO_6.out (fun _ hk => hk.2)⟩, ⟨by (with_reducible repeat (first | apply Kd.R_alloc | apply Kd.R_drewN | apply Kd.R_drew)); exact Kd.R_mono HO265.out (fun _ hk => hk.2)⟩, ⟨by repeat (first | (with_reducible exact HR260.out) | (with_reducible refine Kd.C_alloc ?_ _) | (with_reducible refine Kd.C_drewN ?_ _) | (with_reducible refine Kd.C_drew ?_) | exact HR260.out)⟩, ⟨by repeat (first | (with_reducible first | exact HB.out | apply below_alloc | apply pw_below_drewN | apply below_drew1) | exact HB.out)⟩⟩
                  case round =>
                    clear H'
                    try clear c1
                    try clear c2
                    try clear p2
                    try clear q2
                    try clear hx2
                    try clear c5
                    try clear c6
                    try clear c6b0
                    try clear p6
                    try clear c7
                    try clear c8
                    try clear c8b0
                    try clear c9
                    try clear c9b0
                    try clear c10
                    try clear c11
                    try clear c12
                    try clear c13
                    try clear c15
                    try clear c17
                    try clear c17b0
                    try clear c17b1
                    try clear c17b2
                    try clear c22
                    try clear c22b0
                    try clear c22b1
                    try clear c23
                    try clear c23b0
                    try clear c23b1
                    try clear p24
                    try clear q24
                    try clear hx24
                    try clear p25
                    try clear q25
                    try clear hx25
                    try clear q28
                    try clear hx248_0
                    try clear hx248_1
                    try clear hx248_2
                    try clear hx248_3
                    try clear hx248_4
                    try clear hx248_5
                    try clear hx248_6
                    try clear hx250_0
                    try clear hx250_1
                    try clear hx250_2
                    try clear hx250_3
                    try clear hx250_4
                    try clear hx250_5
                    try clear hx250_6
                    try clear p2
                    try clear p248
                    try clear p250
                    try clear q248
                    try clear q250
                    try clear q28
                    obtain ⟨x13_3, x14_3, rfl, rfl, HA, HK3, HO_6, HO_10, HR260, HB⟩ := hrel
                    cases gk with
                    | zero => exact absurd HA.out (by simp [silhouettelaw12_ScriptCut.l1])
                    | succ k3 =>
                      have H := HA.out
                      clear HA
                      simp only [silhouettelaw12_ScriptCut.l1] at H
                      by_cases c30 : x13_3 < (x6_1.length : Int)
                      · rw [if_pos c30] at H
                        have c30b0 : decide (x13_3 < (x6_1.length : Int)) = true := decide_eq_true c30
                        clear c30
                        by_cases c31 : 0 ≤ x13_3
                        · rw [if_pos c31] at H
                          have c31b0 := eq_true c31
                          have c31b1 : decide (0 ≤ x13_3) = true := decide_eq_true c31
                          clear c31
                          by_cases c32 : x13_3 ≤ (wrap64 (x13_3 + 1))
                          · rw [if_pos c32] at H
                            have c32b0 := eq_true c32
                            have c32b1 : decide (x13_3 ≤ (wrap64 (x13_3 + 1))) = true := decide_eq_true c32
                            by_cases c33 : (wrap64 (x13_3 + 1)) ≤ (x6_1.length : Int)
                            · rw [if_pos c33] at H
                              have c33b0 := eq_true c33
                              have c33b1 : decide ((wrap64 (x13_3 + 1)) ≤ (x6_1.length : Int)) = true := decide_eq_true c33
                              obtain ⟨y266, hy266⟩ : ∃ y_ : List (S31), y_ = ((x6_1.take ((wrap64 (x13_3 + 1)) : Int).toNat).drop (x13_3 : Int).toNat) := ⟨_, rfl⟩
                              replace H : ((script_Put.f k3 y266).bind fun t270 => (if (wrap64 (x14_3 + (t270.length : Int))) ≤ ji21 then ((script_Put.f k3 ((x6_1.take ((wrap64 (x13_3 + 1)) : Int).toNat).drop (x13_3 : Int).toNat)).bind fun t277 => (silhouettelaw12_ScriptCut.l1 k3 t247 x6_1 ji21 t261 t262 t263 (wrap64 (x13_3 + 1)) (wrap64 (x14_3 + (t277.length : Int))))) else (if t247 = true then (if x13_3 ≤ (x6_1.length : Int) then ((silhouetteref12_Same.f k3 t261 (x6_1.take (x13_3 : Int).toNat)).bind fun t284 => (if t284 = true then (if t262 = x14_3 then (some ((t263 == 0) == (x14_3 == ji21))) else (some false)) else (some false))) else (none)) else (some false)))) = some r := by first | (rw [hy266]; with_reducible exact H) | (have H2_ := (Option.bind_some _ _).symm.trans H; rw [hy266]; with_reducible exact H2_) | (have H2_ := (Option.bind_some _ _).symm.trans H; with_reducible exact H2_) | with_reducible exact H | (rw [hy266]; exact H) | exact H
                              have Ny266 := Aside0.mk hy266
                              clear hy266
                              replace H := Option.bind_eq_some_iff.mp H
                              obtain ⟨t270, A340, H⟩ := H
                              replace H : (if (wrap64 (x14_3 + (t270.length : Int))) ≤ ji21 then ((script_Put.f k3 ((x6_1.take ((wrap64 (x13_3 + 1)) : Int).toNat).drop (x13_3 : Int).toNat)).bind fun t277 => (silhouettelaw12_ScriptCut.l1 k3 t247 x6_1 ji21 t261 t262 t263 (wrap64 (x13_3 + 1)) (wrap64 (x14_3 + (t277.length : Int))))) else (if t247 = true then (if x13_3 ≤ (x6_1.length : Int) then ((silhouetteref12_Same.f k3 t261 (x6_1.take (x13_3 : Int).toNat)).bind fun t284 => (if t284 = true then (if t262 = x14_3 then (some ((t263 == 0) == (x14_3 == ji21))) else (some false)) else (some false))) else (none)) else (some false))) = some r := H
                              have A34 := Aside0.mk A340
                              clear A340
                              by_cases c35 : (wrap64 (x14_3 + (t270.length : Int))) ≤ ji21
                              · rw [if_pos c35] at H
                                have c35b0 : decide ((wrap64 (x14_3 + (t270.length : Int))) ≤ ji21) = true := decide_eq_true c35
                                clear c35
                                have c36b0 := eq_true (of_decide_eq_true (by first | (with_reducible assumption) | assumption) : 0 ≤ x13_3)
                                have c37b0 := eq_true (of_decide_eq_true (by first | (with_reducible assumption) | assumption) : x13_3 ≤ (wrap64 (x13_3 + 1)))
                                have c38b0 := eq_true (of_decide_eq_true (by first | (with_reducible assumption) | assumption) : (wrap64 (x13_3 + 1)) ≤ (x6_1.length : Int))
                                obtain ⟨y273, hy273⟩ : ∃ y_ : List (S31), y_ = ((x6_1.take ((wrap64 (x13_3 + 1)) : Int).toNat).drop (x13_3 : Int).toNat) := ⟨_, rfl⟩
                                replace H : ((script_Put.f k3 y273).bind fun t277 => (silhouettelaw12_ScriptCut.l1 k3 t247 x6_1 ji21 t261 t262 t263 (wrap64 (x13_3 + 1)) (wrap64 (x14_3 + (t277.length : Int))))) = some r := by first | (rw [hy273]; with_reducible exact H) | (have H2_ := (Option.bind_some _ _).symm.trans H; rw [hy273]; with_reducible exact H2_) | (have H2_ := (Option.bind_some _ _).symm.trans H; with_reducible exact H2_) | with_reducible exact H | (rw [hy273]; exact H) | exact H
                                have Ny273 := Aside0.mk hy273
                                clear hy273
                                replace H := Option.bind_eq_some_iff.mp H
                                obtain ⟨t277, A390, H⟩ := H
                                replace H : (silhouettelaw12_ScriptCut.l1 k3 t247 x6_1 ji21 t261 t262 t263 (wrap64 (x13_3 + 1)) (wrap64 (x14_3 + (t277.length : Int)))) = some r := H
                                have A39 := Aside0.mk A390
                                clear A390
                                have H' := Aside0.mk H
                                clear H
                                have q40 : ((wrap64 (x13_3 + 1)) : Int) ≤ ((x6_1.length : Int) : Int) := of_decide_eq_true (by first | (with_reducible assumption) | assumption)
                                obtain ⟨i040, hi040, _, hsz40, _⟩ := info_parts info31
                                have hroom40 : x6_1.length ≤ co25 := (Kd.R_reads' HO_6.out).2.1
                                have hC40 : Kd.C k31 _ Ao25 x6_1.length x6_1 := (Kd.R_reads' HO_6.out).2.2
                                have ql40 : (x13_3 : Int) ≤ ((wrap64 (x13_3 + 1)) : Int) := of_decide_eq_true (by first | (with_reducible assumption) | assumption)
                                have q040 : (0 : Int) ≤ (x13_3 : Int) := of_decide_eq_true (by first | (with_reducible assumption) | assumption)
                                have hcut40 := cut_mid (P := Try.prog) 22 31 .i64 .i64 Try.underlying22 hi040 7 hsz40 Ao25 x6_1.length co25 x13_3 (wrap64 (x13_3 + 1)) q040 ql40 q40 hroom40
                                have hr40 := Kd.C_mid (lo := (x13_3 : Int).toNat) (hi := ((wrap64 (x13_3 + 1)) : Int).toNat) (c := co25) hC40 (by omega) (by omega) hroom40
                                obtain ⟨A40, hA40⟩ : ∃ A1, A1 = (if co25 = (x13_3 : Int).toNat then Ao25 else (Ao25 : Option Addr).map (·.add ((x13_3 : Int).toNat * 7))) := ⟨_, rfl⟩
                                obtain ⟨c40, hc40⟩ : ∃ c1, c1 = co25 - (x13_3 : Int).toNat := ⟨_, rfl⟩
                                have hy40 : y266.length = ((wrap64 (x13_3 + 1)) : Int).toNat - (x13_3 : Int).toNat := (by rw [Ny266.out, List.length_drop, List.length_take] <;> omega)
                                rw [show ((x6_1).take ((wrap64 (x13_3 + 1)) : Int).toNat).drop (x13_3 : Int).toNat = y266 from Ny266.out.symm] at hr40
                                replace hr40 : Kd.C k31 _ A40 y266.length y266 := (by rw [hA40]; exact hr40)
                                rw [← hy40, ← hA40, ← hc40] at hcut40
                                have HR269 := Aside0.mk hr40
                                have HC269 := Aside0.mk (show y266.length ≤ c40 from by rw [hy40, hc40]; exact Nat.sub_le_sub_right (Nat.le_trans (by omega) hroom40) _)
                                clear hr40 hC40 hroom40 hi040 hsz40 hc40
                                have KY40 := Aside0.mk hy40
                                have KA40 := Aside0.mk hA40
                                clear hy40 hA40
                                have KL40 := Aside0.mk (show ((wrap64 (x13_3 + 1)) : Int).toNat ≤ x6_1.length from by omega)
                                have KM40 := Aside0.mk (show (x13_3 : Int).toNat ≤ ((wrap64 (x13_3 + 1)) : Int).toNat from by omega)
                                replace q40 := eq_true q40
                                go_wp2_with (first | (go_at_call 15; (with_reducible refine (script_Put.calls k3 _ _ y266 t270 _ ?side1 ?side2 A34.out).mono ?_); (case side1 => repeat (first | exact (by repeat (first | (with_reducible exact HR269.out) | (with_reducible refine Kd.C_alloc ?_ _) | (with_reducible refine Kd.C_drewN ?_ _) | (with_reducible refine Kd.C_drew ?_) | exact HR269.out)) | (with_reducible refine Kd.C_alloc ?_ _) | (with_reducible refine Kd.C_drewN ?_ _) | (with_reducible refine Kd.C_drew ?_))); (case side2 => exact HC269.out); rintro e w41 ⟨v271, rfl, ho0, hb⟩; have n0_ := Aside0.mk (Kd.R_below (by (with_reducible repeat (first | apply Kd.R_alloc | apply Kd.R_drewN | apply Kd.R_drew)); exact HO_6.out) hb); have n1_ := Aside0.mk (Kd.R_below (by (with_reducible repeat (first | apply Kd.R_alloc | apply Kd.R_drewN | apply Kd.R_drew)); exact HO_10.out) hb); have n2_ := Aside0.mk (Kd.R_lower ho0 (below_size (by repeat (first | (with_reducible first | exact HB.out | apply below_alloc | apply pw_below_drewN | apply below_drew1) | exact HB.out)))); have n3_ := Aside0.mk (Kd.C_below (by repeat (first | (with_reducible exact HR260.out) | (with_reducible refine Kd.C_alloc ?_ _) | (with_reducible refine Kd.C_drewN ?_ _) | (with_reducible refine Kd.C_drew ?_) | exact HR260.out)) hb); have n4_ := Aside0.mk (Kd.C_below (by repeat (first | (with_reducible exact HR269.out) | (with_reducible refine Kd.C_alloc ?_ _) | (with_reducible refine Kd.C_drewN ?_ _) | (with_reducible refine Kd.C_drew ?_) | exact HR269.out)) hb); have n5_ := Aside0.mk (below_step (by repeat (first | (with_reducible first | exact HB.out | apply below_alloc | apply pw_below_drewN | apply below_drew1) | exact HB.out)) hb); clear HO_6; clear HO_10; clear HR260; clear HR269; clear HB; have HO_6 := n0_; have HO_10 := n1_; have HO272 := n2_; have HR260 := n3_; have HR269 := n4_; have HB := n5_; clear n0_ n1_ n2_ n3_ n4_ n5_; (try clear hb); (try clear hb2); (try clear hk); (try clear hi); (try clear ho0); obtain ⟨Ao42, co42, eo42⟩ := Kd.R_slice HO272.out; subst eo42; have q43 : ((wrap64 (x13_3 + 1)) : Int) ≤ ((x6_1.length : Int) : Int) := of_decide_eq_true (by first | (with_reducible assumption) | assumption); obtain ⟨i043, hi043, _, hsz43, _⟩ := info_parts info31; have hroom43 : x6_1.length ≤ co25 := (Kd.R_reads' HO_6.out).2.1; have hC43 : Kd.C k31 _ Ao25 x6_1.length x6_1 := (Kd.R_reads' HO_6.out).2.2; have ql43 : (x13_3 : Int) ≤ ((wrap64 (x13_3 + 1)) : Int) := of_decide_eq_true (by first | (with_reducible assumption) | assumption); have q043 : (0 : Int) ≤ (x13_3 : Int) := of_decide_eq_true (by first | (with_reducible assumption) | assumption); have hcut43 := cut_mid (P := Try.prog) 22 31 .i64 .i64 Try.underlying22 hi043 7 hsz43 Ao25 x6_1.length co25 x13_3 (wrap64 (x13_3 + 1)) q043 ql43 q43 hroom43; have hr43 := Kd.C_mid (lo := (x13_3 : Int).toNat) (hi := ((wrap64 (x13_3 + 1)) : Int).toNat) (c := co25) hC43 (by omega) (by omega) hroom43; obtain ⟨A43, hA43⟩ : ∃ A1, A1 = (if co25 = (x13_3 : Int).toNat then Ao25 else (Ao25 : Option Addr).map (·.add ((x13_3 : Int).toNat * 7))) := ⟨_, rfl⟩; obtain ⟨c43, hc43⟩ : ∃ c1, c1 = co25 - (x13_3 : Int).toNat := ⟨_, rfl⟩; have hy43 : y273.length = ((wrap64 (x13_3 + 1)) : Int).toNat - (x13_3 : Int).toNat := (by rw [Ny273.out, List.length_drop, List.length_take] <;> omega); rw [show ((x6_1).take ((wrap64 (x13_3 + 1)) : Int).toNat).drop (x13_3 : Int).toNat = y273 from Ny273.out.symm] at hr43; replace hr43 : Kd.C k31 _ A43 y273.length y273 := (by rw [hA43]; exact hr43); rw [← hy43, ← hA43, ← hc43] at hcut43; have HR276 := Aside0.mk hr43; have HC276 := Aside0.mk (show y273.length ≤ c43 from by rw [hy43, hc43]; exact Nat.sub_le_sub_right (Nat.le_trans (by omega) hroom43) _); clear hr43 hC43 hroom43 hi043 hsz43 hc43; have KY43 := Aside0.mk hy43; have KA43 := Aside0.mk hA43; clear hy43 hA43; have KL43 := Aside0.mk (show ((wrap64 (x13_3 + 1)) : Int).toNat ≤ x6_1.length from by omega); have KM43 := Aside0.mk (show (x13_3 : Int).toNat ≤ ((wrap64 (x13_3 + 1)) : Int).toNat from by omega); replace q43 := eq_true q43) | ((with_reducible refine gate_callee (f := 15) rfl ?_); refine goesL_ (some 80) rfl rfl Try.func15 (by kernel_rfl) rfl #[.slice A43 y273.length c43] rfl (by (try simp only [List.map_toArray, List.map_cons, List.map_nil]); first | done | rfl | (simp only [List.length_drop, List.length_take]; rfl)) ?_; (with_reducible refine (script_Put.calls k3 _ _ y273 t277 _ ?side1 ?side2 A39.out).mono ?_); (case side1 => repeat (first | exact (by repeat (first | (with_reducible exact HR276.out) | (with_reducible refine Kd.C_alloc ?_ _) | (with_reducible refine Kd.C_drewN ?_ _) | (with_reducible refine Kd.C_drew ?_) | exact HR276.out)) | (with_reducible refine Kd.C_alloc ?_ _) | (with_reducible refine Kd.C_drewN ?_ _) | (with_reducible refine Kd.C_drew ?_))); (case side2 => exact HC276.out); rintro e w44 ⟨v278, rfl, ho0, hb⟩; refine ⟨_, rfl, ?_⟩; have n0_ := Aside0.mk (Kd.R_below (by (with_reducible repeat (first | apply Kd.R_alloc | apply Kd.R_drewN | apply Kd.R_drew)); exact HO_6.out) hb); have n1_ := Aside0.mk (Kd.R_below (by (with_reducible repeat (first | apply Kd.R_alloc | apply Kd.R_drewN | apply Kd.R_drew)); exact HO_10.out) hb); have n2_ := Aside0.mk (Kd.R_elder' (by (with_reducible repeat (first | apply Kd.R_alloc | apply Kd.R_drewN | apply Kd.R_drew)); exact HO272.out) (Kd.R_base ho0) hb); have n3_ := Aside0.mk (Kd.R_lower (Kd.R_new' ho0 (Kd.R_lt (by (with_reducible repeat (first | apply Kd.R_alloc | apply Kd.R_drewN | apply Kd.R_drew)); exact HO272.out))) (below_size (by repeat (first | (with_reducible first | exact HB.out | apply below_alloc | apply pw_below_drewN | apply below_drew1) | exact HB.out)))); have n4_ := Aside0.mk (Kd.C_below (by repeat (first | (with_reducible exact HR260.out) | (with_reducible refine Kd.C_alloc ?_ _) | (with_reducible refine Kd.C_drewN ?_ _) | (with_reducible refine Kd.C_drew ?_) | exact HR260.out)) hb); have n5_ := Aside0.mk (Kd.C_below (by repeat (first | (with_reducible exact HR269.out) | (with_reducible refine Kd.C_alloc ?_ _) | (with_reducible refine Kd.C_drewN ?_ _) | (with_reducible refine Kd.C_drew ?_) | exact HR269.out)) hb); have n6_ := Aside0.mk (Kd.C_below (by repeat (first | (with_reducible exact HR276.out) | (with_reducible refine Kd.C_alloc ?_ _) | (with_reducible refine Kd.C_drewN ?_ _) | (with_reducible refine Kd.C_drew ?_) | exact HR276.out)) hb); have n7_ := Aside0.mk (below_step (by repeat (first | (with_reducible first | exact HB.out | apply below_alloc | apply pw_below_drewN | apply below_drew1) | exact HB.out)) hb); clear HO_6; clear HO_10; clear HO272; clear HR260; clear HR269; clear HR276; clear HB; have HO_6 := n0_; have HO_10 := n1_; have HO272 := n2_; have HO279 := n3_; have HR260 := n4_; have HR269 := n5_; have HR276 := n6_; have HB := n7_; clear n0_ n1_ n2_ n3_ n4_ n5_ n6_ n7_; (try clear hb); (try clear hb2); (try clear hk); (try clear hi); (try clear ho0); obtain ⟨Ao45, co45, eo45⟩ := Kd.R_slice HO279.out; subst eo45))
                                obtain rfl : t270 = t277 := Option.some.inj (A34.out.symm.trans ((congrArg (script_Put.f k3) (Ny266.out.trans Ny273.out.symm)).trans A39.out))
                                go_roundg k3
                                case measure => have := HK1.out; have := HJ4.out; have := HK3.out; omega
                                case rel => exact ⟨(wrap64 (x13_3 + 1)), (wrap64 (x14_3 + (t270.length : Int))), (by first | rfl | (simp; done) | (simp [*]; done)), (by first | rfl | (simp; done) | (simp [*]; done)), H', ⟨by have := HK1.out; have := HJ4.out; have := HK3.out; omega⟩, ⟨by (with_reducible repeat (first | apply Kd.R_alloc | apply Kd.R_drewN | apply Kd.R_drew)); exact HO_6.out⟩, ⟨by (with_reducible repeat (first | apply Kd.R_alloc | apply Kd.R_drewN | apply Kd.R_drew)); exact HO_10.out⟩, ⟨by repeat (first | (with_reducible exact HR260.out) | (with_reducible refine Kd.C_alloc ?_ _) | (with_reducible refine Kd.C_drewN ?_ _) | (with_reducible refine Kd.C_drew ?_) | exact HR260.out)⟩, ⟨by repeat (first | (with_reducible first | exact HB.out | apply below_alloc | apply pw_below_drewN | apply below_drew1) | exact HB.out)⟩⟩
                              · rw [if_neg c35] at H
                                have c35b0 : decide ((wrap64 (x14_3 + (t270.length : Int))) ≤ ji21) = false := decide_eq_false c35
                                clear c35
                                by_cases c46 : t247 = true
                                · subst c46
                                  have H1 : (if x13_3 ≤ (x6_1.length : Int) then ((silhouetteref12_Same.f k3 t261 (x6_1.take (x13_3 : Int).toNat)).bind fun t284 => (if t284 = true then (if t262 = x14_3 then (some ((t263 == 0) == (x14_3 == ji21))) else (some false)) else (some false))) else (none)) = some r := by rw [if_pos rfl] at H; exact H
                                  clear H
                                  have H := H1
                                  clear H1
                                  have c47b0 := eq_true (of_decide_eq_true (by first | (with_reducible assumption) | assumption) : 0 ≤ x13_3)
                                  by_cases c48 : x13_3 ≤ (x6_1.length : Int)
                                  · rw [if_pos c48] at H
                                    have c48b0 := eq_true c48
                                    have c48b1 : decide (x13_3 ≤ (x6_1.length : Int)) = true := decide_eq_true c48
                                    clear c48
                                    obtain ⟨y280, hy280⟩ : ∃ y_ : List (S31), y_ = (x6_1.take (x13_3 : Int).toNat) := ⟨_, rfl⟩
                                    replace H : ((silhouetteref12_Same.f k3 t261 y280).bind fun t284 => (if t284 = true then (if t262 = x14_3 then (some ((t263 == 0) == (x14_3 == ji21))) else (some false)) else (some false))) = some r := by first | (rw [hy280]; with_reducible exact H) | (have H2_ := (Option.bind_some _ _).symm.trans H; rw [hy280]; with_reducible exact H2_) | (have H2_ := (Option.bind_some _ _).symm.trans H; with_reducible exact H2_) | with_reducible exact H | (rw [hy280]; exact H) | exact H
                                    have Ny280 := Aside0.mk hy280
                                    clear hy280
                                    replace H := Option.bind_eq_some_iff.mp H
                                    obtain ⟨t284, A490, H⟩ := H
                                    replace H : (if t284 = true then (if t262 = x14_3 then (some ((t263 == 0) == (x14_3 == ji21))) else (some false)) else (some false)) = some r := H
                                    have A49 := Aside0.mk A490
                                    clear A490
                                    by_cases c50 : t284 = true
                                    · subst c50
                                      have H1 : (if t262 = x14_3 then (some ((t263 == 0) == (x14_3 == ji21))) else (some false)) = some r := by rw [if_pos rfl] at H; exact H
                                      clear H
                                      have H := H1
                                      clear H1
                                      by_cases c51 : t262 = x14_3
                                      · rw [if_pos c51] at H
                                        have c51b0 : (t262 == x14_3) = true := beq_iff_eq.mpr c51
                                        have c51b1 : (t262 != x14_3) = false := bne_eq_false_iff_eq.mpr c51
                                        clear c51
                                        obtain rfl := Option.some.inj H
                                        have q52 : ((wrap64 (x13_3 + 1)) : Int) ≤ ((x6_1.length : Int) : Int) := of_decide_eq_true (by first | (with_reducible assumption) | assumption)
                                        obtain ⟨i052, hi052, _, hsz52, _⟩ := info_parts info31
                                        have hroom52 : x6_1.length ≤ co25 := (Kd.R_reads' HO_6.out).2.1
                                        have hC52 : Kd.C k31 _ Ao25 x6_1.length x6_1 := (Kd.R_reads' HO_6.out).2.2
                                        have ql52 : (x13_3 : Int) ≤ ((wrap64 (x13_3 + 1)) : Int) := of_decide_eq_true (by first | (with_reducible assumption) | assumption)
                                        have q052 : (0 : Int) ≤ (x13_3 : Int) := of_decide_eq_true (by first | (with_reducible assumption) | assumption)
                                        have hcut52 := cut_mid (P := Try.prog) 22 31 .i64 .i64 Try.underlying22 hi052 7 hsz52 Ao25 x6_1.length co25 x13_3 (wrap64 (x13_3 + 1)) q052 ql52 q52 hroom52
                                        have hr52 := Kd.C_mid (lo := (x13_3 : Int).toNat) (hi := ((wrap64 (x13_3 + 1)) : Int).toNat) (c := co25) hC52 (by omega) (by omega) hroom52
                                        obtain ⟨A52, hA52⟩ : ∃ A1, A1 = (if co25 = (x13_3 : Int).toNat then Ao25 else (Ao25 : Option Addr).map (·.add ((x13_3 : Int).toNat * 7))) := ⟨_, rfl⟩
                                        obtain ⟨c52, hc52⟩ : ∃ c1, c1 = co25 - (x13_3 : Int).toNat := ⟨_, rfl⟩
                                        have hy52 : y266.length = ((wrap64 (x13_3 + 1)) : Int).toNat - (x13_3 : Int).toNat := (by rw [Ny266.out, List.length_drop, List.length_take] <;> omega)
                                        rw [show ((x6_1).take ((wrap64 (x13_3 + 1)) : Int).toNat).drop (x13_3 : Int).toNat = y266 from Ny266.out.symm] at hr52
                                        replace hr52 : Kd.C k31 _ A52 y266.length y266 := (by rw [hA52]; exact hr52)
                                        rw [← hy52, ← hA52, ← hc52] at hcut52
                                        have HR269 := Aside0.mk hr52
                                        have HC269 := Aside0.mk (show y266.length ≤ c52 from by rw [hy52, hc52]; exact Nat.sub_le_sub_right (Nat.le_trans (by omega) hroom52) _)
                                        clear hr52 hC52 hroom52 hi052 hsz52 hc52
                                        have KY52 := Aside0.mk hy52
                                        have KA52 := Aside0.mk hA52
                                        clear hy52 hA52
                                        have KL52 := Aside0.mk (show ((wrap64 (x13_3 + 1)) : Int).toNat ≤ x6_1.length from by omega)
                                        have KM52 := Aside0.mk (show (x13_3 : Int).toNat ≤ ((wrap64 (x13_3 + 1)) : Int).toNat from by omega)
                                        replace q52 := eq_true q52
                                        go_wp2_with (first | (go_at_call 15; (with_reducible refine (script_Put.calls k3 _ _ y266 t270 _ ?side1 ?side2 A34.out).mono ?_); (case side1 => repeat (first | exact (by repeat (first | (with_reducible exact HR269.out) | (with_reducible refine Kd.C_alloc ?_ _) | (with_reducible refine Kd.C_drewN ?_ _) | (with_reducible refine Kd.C_drew ?_) | exact HR269.out)) | (with_reducible refine Kd.C_alloc ?_ _) | (with_reducible refine Kd.C_drewN ?_ _) | (with_reducible refine Kd.C_drew ?_))); (case side2 => exact HC269.out); rintro e w53 ⟨v271, rfl, ho0, hb⟩; have n0_ := Aside0.mk (Kd.R_below (by (with_reducible repeat (first | apply Kd.R_alloc | apply Kd.R_drewN | apply Kd.R_drew)); exact HO_6.out) hb); have n1_ := Aside0.mk (Kd.R_below (by (with_reducible repeat (first | apply Kd.R_alloc | apply Kd.R_drewN | apply Kd.R_drew)); exact HO_10.out) hb); have n2_ := Aside0.mk (Kd.R_lower ho0 (below_size (by repeat (first | (with_reducible first | exact HB.out | apply below_alloc | apply pw_below_drewN | apply below_drew1) | exact HB.out)))); have n3_ := Aside0.mk (Kd.C_below (by repeat (first | (with_reducible exact HR260.out) | (with_reducible refine Kd.C_alloc ?_ _) | (with_reducible refine Kd.C_drewN ?_ _) | (with_reducible refine Kd.C_drew ?_) | exact HR260.out)) hb); have n4_ := Aside0.mk (Kd.C_below (by repeat (first | (with_reducible exact HR269.out) | (with_reducible refine Kd.C_alloc ?_ _) | (with_reducible refine Kd.C_drewN ?_ _) | (with_reducible refine Kd.C_drew ?_) | exact HR269.out)) hb); have n5_ := Aside0.mk (below_step (by repeat (first | (with_reducible first | exact HB.out | apply below_alloc | apply pw_below_drewN | apply below_drew1) | exact HB.out)) hb); clear HO_6; clear HO_10; clear HR260; clear HR269; clear HB; have HO_6 := n0_; have HO_10 := n1_; have HO272 := n2_; have HR260 := n3_; have HR269 := n4_; have HB := n5_; clear n0_ n1_ n2_ n3_ n4_ n5_; (try clear hb); (try clear hb2); (try clear hk); (try clear hi); (try clear ho0); obtain ⟨Ao54, co54, eo54⟩ := Kd.R_slice HO272.out; subst eo54; have q55 : (x13_3 : Int) ≤ ((x6_1.length : Int) : Int) := of_decide_eq_true (by first | (with_reducible assumption) | assumption); obtain ⟨i055, hi055, _, hsz55, _⟩ := info_parts info31; have hroom55 : x6_1.length ≤ co25 := (Kd.R_reads' HO_6.out).2.1; have hC55 : Kd.C k31 _ Ao25 x6_1.length x6_1 := (Kd.R_reads' HO_6.out).2.2; have hcut55 := cut_to (P := Try.prog) 22 31 .i64 Try.underlying22 hi055 Ao25 x6_1.length co25 x13_3 (of_decide_eq_true (by first | (with_reducible assumption) | assumption)) q55 hroom55; have hr55 := Kd.C_take (m := (x13_3 : Int).toNat) hC55 (by omega); have hy55 : y280.length = (x13_3 : Int).toNat := (by rw [Ny280.out, List.length_take]; omega); rw [← Ny280.out] at hr55; rw [← hy55] at hcut55; have HR283 := Aside0.mk hr55; have HC283 := Aside0.mk (show y280.length ≤ co25 from by omega); clear hr55 hC55 hroom55 hi055 hsz55; have KY55 := Aside0.mk hy55; clear hy55; have KL55 := Aside0.mk (show (x13_3 : Int).toNat ≤ x6_1.length from by omega); replace q55 := eq_true q55; obtain ⟨Ao56, co56, eo56⟩ := Kd.R_slice HO_10.out; subst eo56) | (go_at_call 17; (with_reducible refine (silhouetteref12_Same.calls k3 _ _ t261 _ _ y280 true _ ?side1 ?side2 ?side3 ?side4 A49.out).mono ?_); (case side1 => repeat (first | exact (Kd.R_reads' HO_10.out).2.2 | (with_reducible refine Kd.C_alloc ?_ _) | (with_reducible refine Kd.C_drewN ?_ _) | (with_reducible refine Kd.C_drew ?_))); (case side2 => exact (Kd.R_reads' HO_10.out).2.1); (case side3 => repeat (first | exact (by repeat (first | (with_reducible exact HR283.out) | (with_reducible refine Kd.C_alloc ?_ _) | (with_reducible refine Kd.C_drewN ?_ _) | (with_reducible refine Kd.C_drew ?_) | exact HR283.out)) | (with_reducible refine Kd.C_alloc ?_ _) | (with_reducible refine Kd.C_drewN ?_ _) | (with_reducible refine Kd.C_drew ?_))); (case side4 => exact HC283.out); rintro e w' ⟨rfl, ⟨nd, rfl⟩⟩))
                                        go_ret
                                        exact ⟨by first | rfl | (simp [errW_none, errW_some] <;> rfl) | (simp only [← hji21]; first | rfl | (simp [errW_none, errW_some] <;> rfl)) | (simp [*, errW_none, errW_some] <;> rfl), by repeat (first | (with_reducible first | exact HB.out | apply below_alloc | apply pw_below_drewN | apply below_drew1) | exact HB.out)⟩
                                      · rw [if_neg c51] at H
                                        have c51b0 : (t262 == x14_3) = false := beq_eq_false_iff_ne.mpr c51
                                        have c51b1 : (t262 != x14_3) = true := bne_iff_ne.mpr c51
                                        obtain rfl := Option.some.inj H
                                        exact absurd hr (by decide)
                                    · replace c50 := Bool.eq_false_iff.mpr c50
                                      subst c50
                                      have H1 : (some false) = some r := by rw [if_neg (show ¬ (false = true) by decide)] at H; exact H
                                      clear H
                                      have H := H1
                                      clear H1
                                      obtain rfl := Option.some.inj H
                                      exact absurd hr (by decide)
                                  · rw [if_neg c48] at H
                                    exact absurd H (by simp)
                                · replace c46 := Bool.eq_false_iff.mpr c46
                                  subst c46
                                  have H1 : (some false) = some r := by rw [if_neg (show ¬ (false = true) by decide)] at H; exact H
                                  clear H
                                  have H := H1
                                  clear H1
                                  obtain rfl := Option.some.inj H
                                  exact absurd hr (by decide)
                            · rw [if_neg c33] at H
                              exact absurd H (by simp)
                          · rw [if_neg c32] at H
                            exact absurd H (by simp)
                        · rw [if_neg c31] at H
                          exact absurd H (by simp)
                      · rw [if_neg c30] at H
                        have c30b0 : decide (x13_3 < (x6_1.length : Int)) = false := decide_eq_false c30
                        clear c30
                        by_cases c70 : t247 = true
                        · subst c70
                          have H1 : (if 0 ≤ x13_3 then (if x13_3 ≤ (x6_1.length : Int) then ((silhouetteref12_Same.f k3 t261 (x6_1.take (x13_3 : Int).toNat)).bind fun t289 => (if t289 = true then (if t262 = x14_3 then (some ((t263 == 0) == (x14_3 == ji21))) else (some false)) else (some false))) else (none)) else (none)) = some r := by rw [if_pos rfl] at H; exact H
                          clear H
                          have H := H1
                          clear H1
                          by_cases c71 : 0 ≤ x13_3
                          · rw [if_pos c71] at H
                            have c71b0 := eq_true c71
                            have c71b1 : decide (0 ≤ x13_3) = true := decide_eq_true c71
                            clear c71
                            by_cases c72 : x13_3 ≤ (x6_1.length : Int)
                            · rw [if_pos c72] at H
                              have c72b0 := eq_true c72
                              have c72b1 : decide (x13_3 ≤ (x6_1.length : Int)) = true := decide_eq_true c72
                              clear c72
                              obtain ⟨y285, hy285⟩ : ∃ y_ : List (S31), y_ = (x6_1.take (x13_3 : Int).toNat) := ⟨_, rfl⟩
                              replace H : ((silhouetteref12_Same.f k3 t261 y285).bind fun t289 => (if t289 = true then (if t262 = x14_3 then (some ((t263 == 0) == (x14_3 == ji21))) else (some false)) else (some false))) = some r := by first | (rw [hy285]; with_reducible exact H) | (have H2_ := (Option.bind_some _ _).symm.trans H; rw [hy285]; with_reducible exact H2_) | (have H2_ := (Option.bind_some _ _).symm.trans H; with_reducible exact H2_) | with_reducible exact H | (rw [hy285]; exact H) | exact H
                              have Ny285 := Aside0.mk hy285
                              clear hy285
                              replace H := Option.bind_eq_some_iff.mp H
                              obtain ⟨t289, A730, H⟩ := H
                              replace H : (if t289 = true then (if t262 = x14_3 then (some ((t263 == 0) == (x14_3 == ji21))) else (some false)) else (some false)) = some r := H
                              have A73 := Aside0.mk A730
                              clear A730
                              by_cases c74 : t289 = true
                              · subst c74
                                have H1 : (if t262 = x14_3 then (some ((t263 == 0) == (x14_3 == ji21))) else (some false)) = some r := by rw [if_pos rfl] at H; exact H
                                clear H
                                have H := H1
                                clear H1
                                by_cases c75 : t262 = x14_3
                                · rw [if_pos c75] at H
                                  have c75b0 : (t262 == x14_3) = true := beq_iff_eq.mpr c75
                                  have c75b1 : (t262 != x14_3) = false := bne_eq_false_iff_eq.mpr c75
                                  clear c75
                                  obtain rfl := Option.some.inj H
                                  have q76 : (x13_3 : Int) ≤ ((x6_1.length : Int) : Int) := of_decide_eq_true (by first | (with_reducible assumption) | assumption)
                                  obtain ⟨i076, hi076, _, hsz76, _⟩ := info_parts info31
                                  have hroom76 : x6_1.length ≤ co25 := (Kd.R_reads' HO_6.out).2.1
                                  have hC76 : Kd.C k31 _ Ao25 x6_1.length x6_1 := (Kd.R_reads' HO_6.out).2.2
                                  have hcut76 := cut_to (P := Try.prog) 22 31 .i64 Try.underlying22 hi076 Ao25 x6_1.length co25 x13_3 (of_decide_eq_true (by first | (with_reducible assumption) | assumption)) q76 hroom76
                                  have hr76 := Kd.C_take (m := (x13_3 : Int).toNat) hC76 (by omega)
                                  have hy76 : y285.length = (x13_3 : Int).toNat := (by rw [Ny285.out, List.length_take]; omega)
                                  rw [← Ny285.out] at hr76
                                  rw [← hy76] at hcut76
                                  have HR288 := Aside0.mk hr76
                                  have HC288 := Aside0.mk (show y285.length ≤ co25 from by omega)
                                  clear hr76 hC76 hroom76 hi076 hsz76
                                  have KY76 := Aside0.mk hy76
                                  clear hy76
                                  have KL76 := Aside0.mk (show (x13_3 : Int).toNat ≤ x6_1.length from by omega)
                                  replace q76 := eq_true q76
                                  obtain ⟨Ao77, co77, eo77⟩ := Kd.R_slice HO_10.out
                                  subst eo77
                                  go_wp2_with (first | (go_at_call 17; (with_reducible refine (silhouetteref12_Same.calls k3 _ _ t261 _ _ y285 true _ ?side1 ?side2 ?side3 ?side4 A73.out).mono ?_); (case side1 => repeat (first | exact (Kd.R_reads' HO_10.out).2.2 | (with_reducible refine Kd.C_alloc ?_ _) | (with_reducible refine Kd.C_drewN ?_ _) | (with_reducible refine Kd.C_drew ?_))); (case side2 => exact (Kd.R_reads' HO_10.out).2.1); (case side3 => repeat (first | exact (by repeat (first | (with_reducible exact HR288.out) | (with_reducible refine Kd.C_alloc ?_ _) | (with_reducible refine Kd.C_drewN ?_ _) | (with_reducible refine Kd.C_drew ?_) | exact HR288.out)) | (with_reducible refine Kd.C_alloc ?_ _) | (with_reducible refine Kd.C_drewN ?_ _) | (with_reducible refine Kd.C_drew ?_))); (case side4 => exact HC288.out); rintro e w' ⟨rfl, ⟨nd, rfl⟩⟩))
                                  go_ret
                                  exact ⟨by first | rfl | (simp [errW_none, errW_some] <;> rfl) | (simp only [← hji21]; first | rfl | (simp [errW_none, errW_some] <;> rfl)) | (simp [*, errW_none, errW_some] <;> rfl), by repeat (first | (with_reducible first | exact HB.out | apply below_alloc | apply pw_below_drewN | apply below_drew1) | exact HB.out)⟩
                                · rw [if_neg c75] at H
                                  have c75b0 : (t262 == x14_3) = false := beq_eq_false_iff_ne.mpr c75
                                  have c75b1 : (t262 != x14_3) = true := bne_iff_ne.mpr c75
                                  obtain rfl := Option.some.inj H
                                  exact absurd hr (by decide)
                              · replace c74 := Bool.eq_false_iff.mpr c74
                                subst c74
                                have H1 : (some false) = some r := by rw [if_neg (show ¬ (false = true) by decide)] at H; exact H
                                clear H
                                have H := H1
                                clear H1
                                obtain rfl := Option.some.inj H
                                exact absurd hr (by decide)
                            · rw [if_neg c72] at H
                              exact absurd H (by simp)
                          · rw [if_neg c71] at H
                            exact absurd H (by simp)
                        · replace c70 := Bool.eq_false_iff.mpr c70
                          subst c70
                          have H1 : (some false) = some r := by rw [if_neg (show ¬ (false = true) by decide)] at H; exact H
                          clear H
                          have H := H1
                          clear H1
                          obtain rfl := Option.some.inj H
                          exact absurd hr (by decide)
                · rw [if_neg c23] at H
                  exact absurd H (by simp)
              · rw [if_neg c22] at H
                exact absurd H (by simp)

end Go.Proofs.Ytmifcdmkobammaa.Q
