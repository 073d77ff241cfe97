-- PRINTED by print.py (a twelfth state) out of the translation. Not trusted: Lean checks it.
import Derived.Test.YtmifcdmkobammaaQx0
import Derived.Test.YtmifcdmkobammaaY3
namespace Go.Proofs.Ytmifcdmkobammaa.Q
open Go.RowKit Go.Proofs.YtmifcdmkobammaaW.PrintWords Go.Proofs.YtmifcdmkobammaaW.PrintLast Go.Proofs.YtmifcdmkobammaaW.PrintMore
attribute [local go_sem] max2_int min2_int max_two min_two max_three min_three max_four min_four   -- for this text's walks alone
set_option linter.unusedVariables false
set_option linter.unusedSimpArgs false

/-! ### silhouetteref12_one: function 19 -/
mutual
def silhouetteref12_one.j0 : Nat → List Int → Int → Bool → Int → Int → Int → Int → Int → Option (List Int)
  | 0, _, _, _, _, _, _, _, _ => none
  | k + 1, x3, x137000, x137001, x137002, x137003, x137004, x137005, x137006 => (silhouetteref12_has.f k x137000 65).bind fun t142 => (if t142 = true then ((silhouetteref12_eight.f k x3 x137002).bind fun t143 => (silhouetteref12_one.j1 k t143 x137000 x137001 x137002 x137003 x137004 x137005 x137006)) else (silhouetteref12_one.j1 k x3 x137000 x137001 x137002 x137003 x137004 x137005 x137006))
def silhouetteref12_one.j1 : Nat → List Int → Int → Bool → Int → Int → Int → Int → Int → Option (List Int)
  | 0, _, _, _, _, _, _, _, _ => none
  | k + 1, x3, x137000, x137001, x137002, x137003, x137004, x137005, x137006 => (silhouetteref12_has.f k x137000 71).bind fun t146 => (if t146 = true then (if x3.length < 140737488355328 then (silhouetteref12_one.j2 k (x3 ++ [(x137004) % 256]) x137000 x137001 x137002 x137003 x137004 x137005 x137006) else (none)) else (silhouetteref12_one.j2 k x3 x137000 x137001 x137002 x137003 x137004 x137005 x137006))
def silhouetteref12_one.j2 : Nat → List Int → Int → Bool → Int → Int → Int → Int → Int → Option (List Int)
  | 0, _, _, _, _, _, _, _, _ => none
  | k + 1, x3, x137000, x137001, x137002, x137003, x137004, x137005, x137006 => (silhouetteref12_has.f k x137000 73).bind fun t150 => (if t150 = true then (if x3.length < 140737488355328 then (silhouetteref12_one.j3 k (x3 ++ [(x137005) % 256]) x137000 x137001 x137002 x137003 x137004 x137005 x137006) else (none)) else (silhouetteref12_one.j3 k x3 x137000 x137001 x137002 x137003 x137004 x137005 x137006))
def silhouetteref12_one.j3 : Nat → List Int → Int → Bool → Int → Int → Int → Int → Int → Option (List Int)
  | 0, _, _, _, _, _, _, _, _ => none
  | k + 1, x3, x137000, x137001, x137002, x137003, x137004, x137005, x137006 => (silhouetteref12_has.f k x137000 86).bind fun t154 => (if t154 = true then ((silhouetteref12_eight.f k x3 x137003).bind fun t155 => ((silhouetteref12_has.f k x137000 78).bind fun t158 => (if t158 = true then (if t155.length < 140737488355328 then (some (t155 ++ [(x137006) % 256])) else (none)) else (some t155)))) else ((silhouetteref12_has.f k x137000 78).bind fun t162 => (if t162 = true then (if x3.length < 140737488355328 then (some (x3 ++ [(x137006) % 256])) else (none)) else (some x3))))
end
def silhouetteref12_one.f (k : Nat) (a0_0 : Int) (a0_1 : Bool) (a0_2 : Int) (a0_3 : Int) (a0_4 : Int) (a0_5 : Int) (a0_6 : Int) : Option (List Int) := (some (([(a0_0) % 256] : List Int) : List Int)).bind fun y137 => (if a0_1 = true then (if 0 < (y137.length : Int) then (silhouetteref12_one.j0 k (y137.set (0 : Int).toNat (((rd y137 0) + 128) % 256)) a0_0 a0_1 a0_2 a0_3 a0_4 a0_5 a0_6) else (none)) else (silhouetteref12_one.j0 k y137 a0_0 a0_1 a0_2 a0_3 a0_4 a0_5 a0_6))
theorem silhouetteref12_one.mono_l : ∀ k, (∀ y0 y1 y2 y3 y4 y5 y6 y7, LeO (silhouetteref12_one.j0 k y0 y1 y2 y3 y4 y5 y6 y7) (silhouetteref12_one.j0 (k + 1) y0 y1 y2 y3 y4 y5 y6 y7)) ∧ (∀ y0 y1 y2 y3 y4 y5 y6 y7, LeO (silhouetteref12_one.j1 k y0 y1 y2 y3 y4 y5 y6 y7) (silhouetteref12_one.j1 (k + 1) y0 y1 y2 y3 y4 y5 y6 y7)) ∧ (∀ y0 y1 y2 y3 y4 y5 y6 y7, LeO (silhouetteref12_one.j2 k y0 y1 y2 y3 y4 y5 y6 y7) (silhouetteref12_one.j2 (k + 1) y0 y1 y2 y3 y4 y5 y6 y7)) ∧ (∀ y0 y1 y2 y3 y4 y5 y6 y7, LeO (silhouetteref12_one.j3 k y0 y1 y2 y3 y4 y5 y6 y7) (silhouetteref12_one.j3 (k + 1) y0 y1 y2 y3 y4 y5 y6 y7))
  | 0 => ⟨fun _ _ _ _ _ _ _ _ r h => by simp [silhouetteref12_one.j0] at h, fun _ _ _ _ _ _ _ _ r h => by simp [silhouetteref12_one.j1] at h, fun _ _ _ _ _ _ _ _ r h => by simp [silhouetteref12_one.j2] at h, fun _ _ _ _ _ _ _ _ r h => by simp [silhouetteref12_one.j3] at h⟩
  | k + 1 => by
    obtain ⟨ih0, ih1, ih2, ih3⟩ := silhouetteref12_one.mono_l k
    refine ⟨?_, ?_, ?_, ?_⟩
    · intro y0 y1 y2 y3 y4 y5 y6 y7
      unfold silhouetteref12_one.j0
      repeat' first
      | (with_reducible exact ih0 _ _ _ _ _ _ _ _)
      | (with_reducible exact ih1 _ _ _ _ _ _ _ _)
      | (with_reducible exact ih2 _ _ _ _ _ _ _ _)
      | (with_reducible exact ih3 _ _ _ _ _ _ _ _)
      | (with_reducible exact silhouetteref12_eight.mono _ _ _)
      | (with_reducible exact silhouetteref12_has.mono _ _ _)
      | (with_reducible exact LeO.refl _)
      | (with_reducible exact LeO.none _)
      | (with_reducible refine LeO.ite ?_ ?_)
      | (with_reducible refine LeO.bind ?_ (fun _ => ?_))
      | exact ih0 _ _ _ _ _ _ _ _
      | exact ih1 _ _ _ _ _ _ _ _
      | exact ih2 _ _ _ _ _ _ _ _
      | exact ih3 _ _ _ _ _ _ _ _
      | exact silhouetteref12_eight.mono _ _ _
      | exact silhouetteref12_has.mono _ _ _
      | exact LeO.none _
      | refine LeO.ite ?_ ?_
      | refine LeO.bind ?_ (fun _ => ?_)
    · intro y0 y1 y2 y3 y4 y5 y6 y7
      unfold silhouetteref12_one.j1
      repeat' first
      | (with_reducible exact ih0 _ _ _ _ _ _ _ _)
      | (with_reducible exact ih1 _ _ _ _ _ _ _ _)
      | (with_reducible exact ih2 _ _ _ _ _ _ _ _)
      | (with_reducible exact ih3 _ _ _ _ _ _ _ _)
      | (with_reducible exact silhouetteref12_eight.mono _ _ _)
      | (with_reducible exact silhouetteref12_has.mono _ _ _)
      | (with_reducible exact LeO.refl _)
      | (with_reducible exact LeO.none _)
      | (with_reducible refine LeO.ite ?_ ?_)
      | (with_reducible refine LeO.bind ?_ (fun _ => ?_))
      | exact ih0 _ _ _ _ _ _ _ _
      | exact ih1 _ _ _ _ _ _ _ _
      | exact ih2 _ _ _ _ _ _ _ _
      | exact ih3 _ _ _ _ _ _ _ _
      | exact silhouetteref12_eight.mono _ _ _
      | exact silhouetteref12_has.mono _ _ _
      | exact LeO.none _
      | refine LeO.ite ?_ ?_
      | refine LeO.bind ?_ (fun _ => ?_)
    · intro y0 y1 y2 y3 y4 y5 y6 y7
      unfold silhouetteref12_one.j2
      repeat' first
      | (with_reducible exact ih0 _ _ _ _ _ _ _ _)
      | (with_reducible exact ih1 _ _ _ _ _ _ _ _)
      | (with_reducible exact ih2 _ _ _ _ _ _ _ _)
      | (with_reducible exact ih3 _ _ _ _ _ _ _ _)
      | (with_reducible exact silhouetteref12_eight.mono _ _ _)
      | (with_reducible exact silhouetteref12_has.mono _ _ _)
      | (with_reducible exact LeO.refl _)
      | (with_reducible exact LeO.none _)
      | (with_reducible refine LeO.ite ?_ ?_)
      | (with_reducible refine LeO.bind ?_ (fun _ => ?_))
      | exact ih0 _ _ _ _ _ _ _ _
      | exact ih1 _ _ _ _ _ _ _ _
      | exact ih2 _ _ _ _ _ _ _ _
      | exact ih3 _ _ _ _ _ _ _ _
      | exact silhouetteref12_eight.mono _ _ _
      | exact silhouetteref12_has.mono _ _ _
      | exact LeO.none _
      | refine LeO.ite ?_ ?_
      | refine LeO.bind ?_ (fun _ => ?_)
    · intro y0 y1 y2 y3 y4 y5 y6 y7
      unfold silhouetteref12_one.j3
      repeat' first
      | (with_reducible exact ih0 _ _ _ _ _ _ _ _)
      | (with_reducible exact ih1 _ _ _ _ _ _ _ _)
      | (with_reducible exact ih2 _ _ _ _ _ _ _ _)
      | (with_reducible exact ih3 _ _ _ _ _ _ _ _)
      | (with_reducible exact silhouetteref12_eight.mono _ _ _)
      | (with_reducible exact silhouetteref12_has.mono _ _ _)
      | (with_reducible exact LeO.refl _)
      | (with_reducible exact LeO.none _)
      | (with_reducible refine LeO.ite ?_ ?_)
      | (with_reducible refine LeO.bind ?_ (fun _ => ?_))
      | exact ih0 _ _ _ _ _ _ _ _
      | exact ih1 _ _ _ _ _ _ _ _
      | exact ih2 _ _ _ _ _ _ _ _
      | exact ih3 _ _ _ _ _ _ _ _
      | exact silhouetteref12_eight.mono _ _ _
      | exact silhouetteref12_has.mono _ _ _
      | exact LeO.none _
      | refine LeO.ite ?_ ?_
      | refine LeO.bind ?_ (fun _ => ?_)
theorem silhouetteref12_one.mono : ∀ a0 a1 a2 a3 a4 a5 a6 k, LeO (silhouetteref12_one.f k a0 a1 a2 a3 a4 a5 a6) (silhouetteref12_one.f (k + 1) a0 a1 a2 a3 a4 a5 a6) := by
  intro a0 a1 a2 a3 a4 a5 a6 k
  obtain ⟨ih0, ih1, ih2, ih3⟩ := silhouetteref12_one.mono_l k
  unfold silhouetteref12_one.f
  repeat' first
      | (with_reducible exact ih0 _ _ _ _ _ _ _ _)
      | (with_reducible exact ih1 _ _ _ _ _ _ _ _)
      | (with_reducible exact ih2 _ _ _ _ _ _ _ _)
      | (with_reducible exact ih3 _ _ _ _ _ _ _ _)
      | (with_reducible exact silhouetteref12_eight.mono _ _ _)
      | (with_reducible exact silhouetteref12_has.mono _ _ _)
      | (with_reducible exact LeO.refl _)
      | (with_reducible exact LeO.none _)
      | (with_reducible refine LeO.ite ?_ ?_)
      | (with_reducible refine LeO.bind ?_ (fun _ => ?_))
      | exact ih0 _ _ _ _ _ _ _ _
      | exact ih1 _ _ _ _ _ _ _ _
      | exact ih2 _ _ _ _ _ _ _ _
      | exact ih3 _ _ _ _ _ _ _ _
      | exact silhouetteref12_eight.mono _ _ _
      | exact silhouetteref12_has.mono _ _ _
      | exact LeO.none _
      | refine LeO.ite ?_ ?_
      | refine LeO.bind ?_ (fun _ => ?_)
set_option maxHeartbeats 8000000 in
set_option maxRecDepth 100000 in
theorem silhouetteref12_one.calls (k : Nat) (a0_0 : Int) (a0_1 : Bool) (a0_2 : Int) (a0_3 : Int) (a0_4 : Int) (a0_5 : Int) (a0_6 : Int) (r : List Int) (w : World) (h : silhouetteref12_one.f k a0_0 a0_1 a0_2 a0_3 a0_4 a0_5 a0_6 = some r) :
    Calls Try.prog 19 #[.agg #[.int .i64 a0_0, .bool a0_1, .int .u64 a0_2, .int .u64 a0_3, .int .i64 a0_4, .int .i64 a0_5, .int .i64 a0_6]] w fun e w' => ∃ v0_ : Value, e = .returned (v0_) ∧ Kd.R (Kd.int .u8) 5 w' w.heap.size (fun _ => True) v0_ r ∧ Below w.heap.size w w' := by
  have hu31 := Try.underlying31
  have HB := Aside0.mk (Below.refl w.heap.size w)
  have H : ((some (([(a0_0) % 256] : List Int) : List Int)).bind fun y137 => (if a0_1 = true then (if 0 < (y137.length : Int) then (silhouetteref12_one.j0 k (y137.set (0 : Int).toNat (((rd y137 0) + 128) % 256)) a0_0 a0_1 a0_2 a0_3 a0_4 a0_5 a0_6) else (none)) else (silhouetteref12_one.j0 k y137 a0_0 a0_1 a0_2 a0_3 a0_4 a0_5 a0_6))) = some r := h
  clear h
  obtain ⟨y137, hy137⟩ : ∃ y_ : List Int, y_ = (([(a0_0) % 256] : List Int)) := ⟨_, rfl⟩
  replace H : (if a0_1 = true then (if 0 < (y137.length : Int) then (silhouetteref12_one.j0 k (y137.set (0 : Int).toNat (((rd y137 0) + 128) % 256)) a0_0 a0_1 a0_2 a0_3 a0_4 a0_5 a0_6) else (none)) else (silhouetteref12_one.j0 k y137 a0_0 a0_1 a0_2 a0_3 a0_4 a0_5 a0_6)) = some r := by first | (rw [hy137]; with_reducible exact H) | (have H2_ := (Option.bind_some _ _).symm.trans H; rw [hy137]; with_reducible exact H2_) | (have H2_ := (Option.bind_some _ _).symm.trans H; with_reducible exact H2_) | with_reducible exact H | (rw [hy137]; exact H) | exact H
  have Ny137 := Aside0.mk hy137
  clear hy137
  have HC2 := Aside0.mk H
  clear H
  go_enter Try.func19, Try.ntmps19
  go_upto_if 9 with (first | ((with_reducible refine gate_dst (N := 1) rfl ?_); refine box_event ?hg (N := 1) ?hd (cs := #[.int .i64 a0_0, .bool a0_1, .int .u64 a0_2, .int .u64 a0_3, .int .i64 a0_4, .int .i64 a0_5, .int .i64 a0_6]) (t := 31) ?hr ?_; (case hd => rfl); (case hg => rfl); (case hr => first | (go_simp; done) | (go_simp; rfl)); intro gb136 hg w3 hbox hb; have n0_ := Aside0.mk (below_step (by repeat (first | (with_reducible first | exact HB.out | apply below_alloc | apply pw_below_drewN | apply below_drew1) | exact HB.out)) hb); have n1_ := Aside0.mk (hbox); have n2_ := Aside0.mk ((by rw [hg]; exact (below_size (by repeat (first | (with_reducible first | exact HB.out | apply below_alloc | apply pw_below_drewN | apply below_drew1) | exact HB.out))) : w.heap.size ≤ gb136)); have n3_ := Aside0.mk ((by rw [hg]; exact (below_size (by repeat (first | (with_reducible first | exact HB.out | apply below_alloc | apply pw_below_drewN | apply below_drew1) | exact HB.out))) : w.heap.size ≤ gb136)); clear HB; have HB := n0_; have BK136 := n1_; have GW136 := n2_; have GE136 := n3_; clear n0_ n1_ n2_ n3_; clear hb hbox hg; have hcz4_0 : w3.cell? ⟨gb136, 0, none⟩ = some (.int .i64 a0_0) := (blk_cell BK136.out 0).trans rfl; have hcz4_1 : w3.cell? ⟨gb136, 1, none⟩ = some (.bool a0_1) := (blk_cell BK136.out 1).trans rfl; have hcz4_2 : w3.cell? ⟨gb136, 2, none⟩ = some (.int .u64 a0_2) := (blk_cell BK136.out 2).trans rfl; have hcz4_3 : w3.cell? ⟨gb136, 3, none⟩ = some (.int .u64 a0_3) := (blk_cell BK136.out 3).trans rfl; have hcz4_4 : w3.cell? ⟨gb136, 4, none⟩ = some (.int .i64 a0_4) := (blk_cell BK136.out 4).trans rfl; have hcz4_5 : w3.cell? ⟨gb136, 5, none⟩ = some (.int .i64 a0_5) := (blk_cell BK136.out 5).trans rfl; have hcz4_6 : w3.cell? ⟨gb136, 6, none⟩ = some (.int .i64 a0_6) := (blk_cell BK136.out 6).trans rfl; have hfz4_0 := blk_frozen BK136.out 0; have hfz4_1 := blk_frozen BK136.out 1; have hfz4_2 := blk_frozen BK136.out 2; have hfz4_3 := blk_frozen BK136.out 3; have hfz4_4 := blk_frozen BK136.out 4; have hfz4_5 := blk_frozen BK136.out 5; have hfz4_6 := blk_frozen BK136.out 6) | ((with_reducible refine gate_dst (N := 7) rfl ?_); refine Kd.R_lit (Kd.int .u8) _ 5 ?hg (N := 7) ?hd (xs := ([(a0_0) % 256] : List Int)) (inner := [.int .u8 ((a0_0) % 256)]) (ok := fun _ => True) (okp := fun _ => True) ?hr ?hp (fun _ hk => hk) trivial (Below.refl _ _) (Nat.le_refl _) (by simp) ?_; (case hd => rfl); (case hg => rfl); (case hr => first | (go_simp; done) | (go_simp; rfl)); (case hp => exact (Reps.one (show Kd.M (Kd.int .u8) _ _ _ ((a0_0) % 256) [.int .u8 ((a0_0) % 256)] from rfl) (Reps.none _ _))); intro v138 w5 ho6 hb hg_ hnew_; clear hg_ hnew_; (first | rw [← Ny137.out] at ho6 | (simp only [Int.reduceToNat] at ho6; rw [← Ny137.out] at ho6)); have n0_ := Aside0.mk (Kd.R_lower ho6 (below_size (by repeat (first | (with_reducible first | exact HB.out | apply below_alloc | apply pw_below_drewN | apply below_drew1 | refine below_set ?_ GE136.out) | exact HB.out)))); have n1_ := Aside0.mk (blk_below (g := gb136) (o := .cells #[.int .i64 a0_0, .bool a0_1, .int .u64 a0_2, .int .u64 a0_3, .int .i64 a0_4, .int .i64 a0_5, .int .i64 a0_6] 31 (0, 0)) (by (with_reducible repeat (first | refine blk_drewN ?_ _ | refine blk_drew ?_ | refine blk_alloc ?_ _)); exact BK136.out) hb); have n2_ := Aside0.mk (below_step (by repeat (first | (with_reducible first | exact HB.out | apply below_alloc | apply pw_below_drewN | apply below_drew1 | refine below_set ?_ GE136.out) | exact HB.out)) hb); clear BK136; clear HB; have HO139 := n0_; have BK136 := n1_; have HB := n2_; clear n0_ n1_ n2_; clear hb ho6; have hcz7_0 : w5.cell? ⟨gb136, 0, none⟩ = some (.int .i64 a0_0) := (blk_cell BK136.out 0).trans rfl; have hcz7_1 : w5.cell? ⟨gb136, 1, none⟩ = some (.bool a0_1) := (blk_cell BK136.out 1).trans rfl; have hcz7_2 : w5.cell? ⟨gb136, 2, none⟩ = some (.int .u64 a0_2) := (blk_cell BK136.out 2).trans rfl; have hcz7_3 : w5.cell? ⟨gb136, 3, none⟩ = some (.int .u64 a0_3) := (blk_cell BK136.out 3).trans rfl; have hcz7_4 : w5.cell? ⟨gb136, 4, none⟩ = some (.int .i64 a0_4) := (blk_cell BK136.out 4).trans rfl; have hcz7_5 : w5.cell? ⟨gb136, 5, none⟩ = some (.int .i64 a0_5) := (blk_cell BK136.out 5).trans rfl; have hcz7_6 : w5.cell? ⟨gb136, 6, none⟩ = some (.int .i64 a0_6) := (blk_cell BK136.out 6).trans rfl; have hfz7_0 := blk_frozen BK136.out 0; have hfz7_1 := blk_frozen BK136.out 1; have hfz7_2 := blk_frozen BK136.out 2; have hfz7_3 := blk_frozen BK136.out 3; have hfz7_4 := blk_frozen BK136.out 4; have hfz7_5 := blk_frozen BK136.out 5; have hfz7_6 := blk_frozen BK136.out 6))
  (try simp only [Act.put, List.setIfInBounds_toArray, List.set_cons_zero, List.set_cons_succ])
  go_cut [] (fun wc => ∃ (kq : Nat) (x3_1 : List Int), Aside0 (silhouetteref12_one.j0 kq x3_1 a0_0 a0_1 a0_2 a0_3 a0_4 a0_5 a0_6 = some r) ∧ Aside0 (kq ≤ k) ∧ Aside0 (Kd.R (Kd.int .u8) 5 wc w.heap.size (fun _ => True) v138 x3_1) ∧ Aside0 (wc.heap[gb136]? = some (.cells #[.int .i64 a0_0, .bool a0_1, .int .u64 a0_2, .int .u64 a0_3, .int .i64 a0_4, .int .i64 a0_5, .int .i64 a0_6] 31 (0, 0))) ∧ Aside0 (Below w.heap.size w wc))
  case first =>
    have H := HC2.out
    clear HC2
    by_cases c8 : a0_1 = true
    · subst c8
      have H1 : (if 0 < (y137.length : Int) then (silhouetteref12_one.j0 k (y137.set (0 : Int).toNat (((rd y137 0) + 128) % 256)) a0_0 true a0_2 a0_3 a0_4 a0_5 a0_6) else (none)) = some r := by rw [if_pos rfl] at H; exact H
      clear H
      have H := H1
      clear H1
      by_cases c9 : 0 < (y137.length : Int)
      · rw [if_pos c9] at H
        have c9b0 : decide (0 < (y137.length : Int)) = true := decide_eq_true c9
        have c9b1 : decide (0 < y137.length) = true := decide_eq_true (by omega)
        clear c9
        (first | rw [c9b0] | (simp only [i64_w, i32_w]; rw [c9b0]) | skip)
        obtain ⟨y141, hy141⟩ : ∃ y_ : List Int, y_ = (y137.set (0 : Int).toNat (((rd y137 0) + 128) % 256)) := ⟨_, rfl⟩
        replace H : (silhouetteref12_one.j0 k y141 a0_0 true a0_2 a0_3 a0_4 a0_5 a0_6) = some r := by first | (rw [hy141]; with_reducible exact H) | (have H2_ := (Option.bind_some _ _).symm.trans H; rw [hy141]; with_reducible exact H2_) | (have H2_ := (Option.bind_some _ _).symm.trans H; with_reducible exact H2_) | with_reducible exact H | (rw [hy141]; exact H) | exact H
        have Ny141 := Aside0.mk hy141
        clear hy141
        have H' := Aside0.mk H
        clear H
        obtain ⟨Ao11, co11, eo11⟩ := Kd.R_slice HO139.out
        subst eo11
        have p140 : 0 ≤ (0 : Int) := (by omega)
        have q140 : 0 < (y137.length : Int) := of_decide_eq_true (by first | (with_reducible assumption) | assumption)
        obtain ⟨ad140, e140, hx140_0⟩ := Kd.at_int (Kd.R_reads' HO139.out).2.2 0 p140 q140
        cases e140
        have qi140 : (0 < y137.length) = True := eq_true (by omega)
        (try rw [show ((0 : Int)).toNat = 0 from rfl] at hx140_0)
        (try rw [Addr.add_zero'] at hx140_0)
        replace p140 := eq_true p140
        replace q140 := eq_true q140
        have p10 : 0 ≤ (0 : Int) := (by omega)
        have q10 : (0 : Int) < ((y137.length : Int) : Int) := of_decide_eq_true (by first | (with_reducible assumption) | assumption)
        have qi10 : (0 < y137.length) = True := eq_true (by omega)
        obtain ⟨go10, co10, eo10, gb10, gl10, cl10, HG10⟩ := Kd.R_form HO139.out (by omega)
        (first | cases eo10 | (injection eo10 with ea_ en_ ec_; (first | subst ea_ | (injection ea_ with ea_; subst ea_)); subst ec_; clear en_))
        have GB10 := Aside0.mk gb10
        have GG10 := Aside0.mk HG10
        clear gb10 gl10 HG10
        (first | simp only [add_plain] at hx140_0 | skip)
        obtain ⟨hx10_0, hf10_0⟩ := Kd.R_celln 0 HO139.out (0 : Int) p10 q10
        (try rw [show ((0 : Int)).toNat = 0 from rfl] at hx10_0)
        (try simp only [Nat.reduceMul, Nat.zero_mul, Nat.zero_add, Nat.reduceAdd] at hx10_0)
        (try rw [show ((0 : Int)).toNat = 0 from rfl] at hf10_0)
        (try simp only [Nat.reduceMul, Nat.zero_mul, Nat.zero_add, Nat.reduceAdd] at hf10_0)
        replace p10 := eq_true p10
        replace q10 := eq_true q10
        have HP12 := Kd.R_putg HO139.out (0 : Int) (((rd y137 0) + 128) % 256)
        go_wp2_with (first | ((with_reducible refine gate_store (t := 5) (p := 15) rfl ?_); refine store_event (t := 5) (p := 15) (v := ?vo_w13) (w1 := (w5.setCell ⟨go10, (0 : Int).toNat, none⟩ (.int .u8 (((rd y137 0) + 128) % 256)))) ?hg ?ho ?hn ?hr ?_; (case ho => rfl); (case hg => rfl); (case hn => rfl); (case hr => first | (go_simp; done) | (go_simp; rfl)); intro w13 hw; have hg : w5.grownBy w13 (some go10) := (by rw [hw]; exact HP12.2); have hp_ : Kd.R (Kd.int .u8) 5 w13 w.heap.size (fun _ => True) (.slice (some ⟨go10, 0, none⟩) y137.length co11) y141 := (by rw [hw, Ny141.out]; exact HP12.1); clear HP12; have n0_ := Aside0.mk (blk_grown (g := gb136) (o := .cells #[.int .i64 a0_0, .bool true, .int .u64 a0_2, .int .u64 a0_3, .int .i64 a0_4, .int .i64 a0_5, .int .i64 a0_6] 31 (0, 0)) (by (with_reducible repeat (first | refine blk_drewN ?_ _ | refine blk_drew ?_ | refine blk_alloc ?_ _)); exact BK136.out) hg (Kd.R_ne HO139.out BK136.out (by decide))); have n1_ := Aside0.mk (hp_); have n2_ := Aside0.mk ((by rw [hw]; exact below_set (HB.out) GB10.out : Below w.heap.size w w13)); clear BK136; clear HO139; clear HB; have BK136 := n0_; have HO139 := n1_; have HB := n2_; clear n0_ n1_ n2_; clear hg hw hp_))
        go_meet
        case rel => exact ⟨_, (y141), H', ⟨by first | omega | exact Nat.le_refl _⟩, ⟨by (with_reducible repeat (first | apply Kd.R_alloc | apply Kd.R_drewN | apply Kd.R_drew)); exact HO139.out⟩, ⟨by (with_reducible repeat (first | refine blk_drewN ?_ _ | refine blk_drew ?_ | refine blk_alloc ?_ _)); exact BK136.out⟩, ⟨by repeat (first | (with_reducible first | exact HB.out | apply below_alloc | apply pw_below_drewN | apply below_drew1 | refine below_set ?_ GE136.out) | exact HB.out)⟩⟩
      · rw [if_neg c9] at H
        exact absurd H (by simp)
    · replace c8 := Bool.eq_false_iff.mpr c8
      subst c8
      have H1 : (silhouetteref12_one.j0 k y137 a0_0 false a0_2 a0_3 a0_4 a0_5 a0_6) = some r := by rw [if_neg (show ¬ (false = true) by decide)] at H; exact H
      clear H
      have H := H1
      clear H1
      have H' := Aside0.mk H
      clear H
      go_wp2
      go_meet
      case rel => exact ⟨_, (y137), H', ⟨by first | omega | exact Nat.le_refl _⟩, ⟨by (with_reducible repeat (first | apply Kd.R_alloc | apply Kd.R_drewN | apply Kd.R_drew)); exact HO139.out⟩, ⟨by (with_reducible repeat (first | refine blk_drewN ?_ _ | refine blk_drew ?_ | refine blk_alloc ?_ _)); exact BK136.out⟩, ⟨by repeat (first | (with_reducible first | exact HB.out | apply below_alloc | apply pw_below_drewN | apply below_drew1 | refine below_set ?_ GE136.out) | exact HB.out)⟩⟩
  case rest =>
    clear HC2
    try clear c1
    try clear p1
    try clear q1
    try clear hx1
    try clear qi1
    try clear hf1
    try clear p2
    try clear c8
    try clear c9
    try clear c9b0
    try clear c9b1
    try clear p10
    try clear q10
    try clear hx10
    try clear qi10
    try clear hf10
    try clear hcz4_0
    try clear hcz4_1
    try clear hcz4_2
    try clear hcz4_3
    try clear hcz4_4
    try clear hcz4_5
    try clear hcz4_6
    try clear hcz7_0
    try clear hcz7_1
    try clear hcz7_2
    try clear hcz7_3
    try clear hcz7_4
    try clear hcz7_5
    try clear hcz7_6
    try clear hfz4_0
    try clear hfz4_1
    try clear hfz4_2
    try clear hfz4_3
    try clear hfz4_4
    try clear hfz4_5
    try clear hfz4_6
    try clear hfz7_0
    try clear hfz7_1
    try clear hfz7_2
    try clear hfz7_3
    try clear hfz7_4
    try clear hfz7_5
    try clear hfz7_6
    try clear hx10_0
    try clear hx140_0
    try clear p10
    try clear p140
    try clear q10
    try clear q140
    obtain ⟨kq, x3_1, HA, HJ1, HO_3, BK136, HB⟩ := hcut
    cases kq with
    | zero => exact absurd HA.out (by simp [silhouetteref12_one.j0])
    | succ kj1 =>
      have H := HA.out
      clear HA
      simp only [silhouetteref12_one.j0] at H
      replace H := Option.bind_eq_some_iff.mp H
      obtain ⟨t142, A140, H⟩ := H
      replace H : (if t142 = true then ((silhouetteref12_eight.f kj1 x3_1 a0_2).bind fun t143 => (silhouetteref12_one.j1 kj1 t143 a0_0 a0_1 a0_2 a0_3 a0_4 a0_5 a0_6)) else (silhouetteref12_one.j1 kj1 x3_1 a0_0 a0_1 a0_2 a0_3 a0_4 a0_5 a0_6)) = some r := H
      have A14 := Aside0.mk A140
      clear A140
      have HC15 := Aside0.mk H
      clear H
      have hcz16_0 : wc.cell? ⟨gb136, 0, none⟩ = some (.int .i64 a0_0) := (blk_cell BK136.out 0).trans rfl
      have hcz16_1 : wc.cell? ⟨gb136, 1, none⟩ = some (.bool a0_1) := (blk_cell BK136.out 1).trans rfl
      have hcz16_2 : wc.cell? ⟨gb136, 2, none⟩ = some (.int .u64 a0_2) := (blk_cell BK136.out 2).trans rfl
      have hcz16_3 : wc.cell? ⟨gb136, 3, none⟩ = some (.int .u64 a0_3) := (blk_cell BK136.out 3).trans rfl
      have hcz16_4 : wc.cell? ⟨gb136, 4, none⟩ = some (.int .i64 a0_4) := (blk_cell BK136.out 4).trans rfl
      have hcz16_5 : wc.cell? ⟨gb136, 5, none⟩ = some (.int .i64 a0_5) := (blk_cell BK136.out 5).trans rfl
      have hcz16_6 : wc.cell? ⟨gb136, 6, none⟩ = some (.int .i64 a0_6) := (blk_cell BK136.out 6).trans rfl
      have hfz16_0 := blk_frozen BK136.out 0
      have hfz16_1 := blk_frozen BK136.out 1
      have hfz16_2 := blk_frozen BK136.out 2
      have hfz16_3 := blk_frozen BK136.out 3
      have hfz16_4 := blk_frozen BK136.out 4
      have hfz16_5 := blk_frozen BK136.out 5
      have hfz16_6 := blk_frozen BK136.out 6
      go_upto_if 18 with (first | ((with_reducible refine gate_callee (f := 20) rfl ?_); refine goesL_ (some 18) rfl rfl Try.func20 (by kernel_rfl) rfl #[.int .i64 a0_0, .int .u8 65] rfl (by (try simp only [List.map_toArray, List.map_cons, List.map_nil]); first | done | rfl | (simp only [List.length_drop, List.length_take]; rfl)) ?_; (with_reducible refine (silhouetteref12_has.calls kj1 a0_0 65 t142 _ A14.out).mono ?_); rintro e w' ⟨rfl, ⟨nd, rfl⟩⟩; refine ⟨_, rfl, ?_⟩))
      (try simp only [Act.put, List.setIfInBounds_toArray, List.set_cons_zero, List.set_cons_succ])
      go_cut [3] (fun v3 wc => ∃ (kq : Nat) (x3_14 : List Int), Aside0 (silhouetteref12_one.j1 kq x3_14 a0_0 a0_1 a0_2 a0_3 a0_4 a0_5 a0_6 = some r) ∧ Aside0 (kq ≤ kj1) ∧ Aside0 (Kd.R (Kd.int .u8) 5 wc w.heap.size (fun _ => True) v3 x3_14) ∧ Aside0 (wc.heap[gb136]? = some (.cells #[.int .i64 a0_0, .bool a0_1, .int .u64 a0_2, .int .u64 a0_3, .int .i64 a0_4, .int .i64 a0_5, .int .i64 a0_6] 31 (0, 0))) ∧ Aside0 (Below w.heap.size w wc))
      case first =>
        have H := HC15.out
        clear HC15
        by_cases c17 : t142 = true
        · subst c17
          have H1 : ((silhouetteref12_eight.f kj1 x3_1 a0_2).bind fun t143 => (silhouetteref12_one.j1 kj1 t143 a0_0 a0_1 a0_2 a0_3 a0_4 a0_5 a0_6)) = some r := by rw [if_pos rfl] at H; exact H
          clear H
          have H := H1
          clear H1
          replace H := Option.bind_eq_some_iff.mp H
          obtain ⟨t143, A180, H⟩ := H
          replace H : (silhouetteref12_one.j1 kj1 t143 a0_0 a0_1 a0_2 a0_3 a0_4 a0_5 a0_6) = some r := H
          have A18 := Aside0.mk A180
          clear A180
          have H' := Aside0.mk H
          clear H
          have hcz19_0 : wc.cell? ⟨gb136, 0, none⟩ = some (.int .i64 a0_0) := (blk_cell BK136.out 0).trans rfl
          have hcz19_1 : wc.cell? ⟨gb136, 1, none⟩ = some (.bool a0_1) := (blk_cell BK136.out 1).trans rfl
          have hcz19_2 : wc.cell? ⟨gb136, 2, none⟩ = some (.int .u64 a0_2) := (blk_cell BK136.out 2).trans rfl
          have hcz19_3 : wc.cell? ⟨gb136, 3, none⟩ = some (.int .u64 a0_3) := (blk_cell BK136.out 3).trans rfl
          have hcz19_4 : wc.cell? ⟨gb136, 4, none⟩ = some (.int .i64 a0_4) := (blk_cell BK136.out 4).trans rfl
          have hcz19_5 : wc.cell? ⟨gb136, 5, none⟩ = some (.int .i64 a0_5) := (blk_cell BK136.out 5).trans rfl
          have hcz19_6 : wc.cell? ⟨gb136, 6, none⟩ = some (.int .i64 a0_6) := (blk_cell BK136.out 6).trans rfl
          have hfz19_0 := blk_frozen BK136.out 0
          have hfz19_1 := blk_frozen BK136.out 1
          have hfz19_2 := blk_frozen BK136.out 2
          have hfz19_3 := blk_frozen BK136.out 3
          have hfz19_4 := blk_frozen BK136.out 4
          have hfz19_5 := blk_frozen BK136.out 5
          have hfz19_6 := blk_frozen BK136.out 6
          obtain ⟨Ao20, co20, eo20⟩ := Kd.R_slice HO_3.out
          subst eo20
          go_wp2_with (first | ((with_reducible refine gate_callee (f := 26) rfl ?_); refine goesL_ (some 22) rfl rfl Try.func26 (by kernel_rfl) rfl #[.slice Ao20 x3_1.length co20, .int .u64 a0_2] rfl (by (try simp only [List.map_toArray, List.map_cons, List.map_nil]); first | done | rfl | (simp only [List.length_drop, List.length_take]; rfl)) ?_; (with_reducible refine (silhouetteref12_eight.calls kj1 (fun k_ => some k_ = (.slice Ao20 x3_1.length co20 : Value).ownBlock) (.slice Ao20 x3_1.length co20) x3_1 a0_2 t143 w _ ?side1 ?side2 A18.out).mono ?_); (case side1 => repeat (first | (with_reducible first | exact HB.out | apply below_alloc | apply pw_below_drewN | apply below_drew1 | refine below_set ?_ GE136.out) | exact HB.out)); (case side2 => exact Kd.R_tight rfl HO_3.out); rintro e w21 ⟨v144, rfl, ho0, hb, hkp⟩; refine ⟨_, rfl, ?_⟩; have n0_ := Aside0.mk (blk_kept (by (with_reducible repeat (first | refine blk_drewN ?_ _ | refine blk_drew ?_ | refine blk_alloc ?_ _)); exact BK136.out) hkp (fun hs_ => (fun e_ => (Kd.R_ne HO_3.out BK136.out (by decide)) e_) hs_)); have n1_ := Aside0.mk (Kd.R_mono (ok' := fun k_ => True) ho0 (fun k_ hk_ => trivial)); have n2_ := Aside0.mk (hb); clear BK136; clear HB; clear HO_3; have BK136 := n0_; have HO145 := n1_; have HB := n2_; clear n0_ n1_ n2_; (try clear hb); (try clear hkp); (try clear ho0)))
          go_meet
          case rel => exact ⟨_, (t143), H', ⟨by have := HJ1.out; first | omega | exact Nat.le_refl _⟩, ⟨by (with_reducible repeat (first | apply Kd.R_alloc | apply Kd.R_drewN | apply Kd.R_drew)); exact HO145.out⟩, ⟨by (with_reducible repeat (first | refine blk_drewN ?_ _ | refine blk_drew ?_ | refine blk_alloc ?_ _)); exact BK136.out⟩, ⟨by repeat (first | (with_reducible first | exact HB.out | apply below_alloc | apply pw_below_drewN | apply below_drew1 | refine below_set ?_ GE136.out) | exact HB.out)⟩⟩
        · replace c17 := Bool.eq_false_iff.mpr c17
          subst c17
          have H1 : (silhouetteref12_one.j1 kj1 x3_1 a0_0 a0_1 a0_2 a0_3 a0_4 a0_5 a0_6) = some r := by rw [if_neg (show ¬ (false = true) by decide)] at H; exact H
          clear H
          have H := H1
          clear H1
          have H' := Aside0.mk H
          clear H
          go_wp2
          go_meet
          case rel => exact ⟨_, (x3_1), H', ⟨by have := HJ1.out; first | omega | exact Nat.le_refl _⟩, ⟨by (with_reducible repeat (first | apply Kd.R_alloc | apply Kd.R_drewN | apply Kd.R_drew)); exact HO_3.out⟩, ⟨by (with_reducible repeat (first | refine blk_drewN ?_ _ | refine blk_drew ?_ | refine blk_alloc ?_ _)); exact BK136.out⟩, ⟨by repeat (first | (with_reducible first | exact HB.out | apply below_alloc | apply pw_below_drewN | apply below_drew1 | refine below_set ?_ GE136.out) | exact HB.out)⟩⟩
      case rest =>
        clear HC15
        try clear c1
        try clear p1
        try clear q1
        try clear hx1
        try clear qi1
        try clear hf1
        try clear c2
        try clear p2
        try clear c8
        try clear c9
        try clear c9b0
        try clear c9b1
        try clear p10
        try clear q10
        try clear hx10
        try clear qi10
        try clear hf10
        try clear p14
        try clear q14
        try clear hx14
        try clear qi14
        try clear c17
        try clear c19
        try clear c20
        try clear hcz16_0
        try clear hcz16_1
        try clear hcz16_2
        try clear hcz16_3
        try clear hcz16_4
        try clear hcz16_5
        try clear hcz16_6
        try clear hcz19_0
        try clear hcz19_1
        try clear hcz19_2
        try clear hcz19_3
        try clear hcz19_4
        try clear hcz19_5
        try clear hcz19_6
        try clear hcz4_0
        try clear hcz4_1
        try clear hcz4_2
        try clear hcz4_3
        try clear hcz4_4
        try clear hcz4_5
        try clear hcz4_6
        try clear hcz7_0
        try clear hcz7_1
        try clear hcz7_2
        try clear hcz7_3
        try clear hcz7_4
        try clear hcz7_5
        try clear hcz7_6
        try clear hfz16_0
        try clear hfz16_1
        try clear hfz16_2
        try clear hfz16_3
        try clear hfz16_4
        try clear hfz16_5
        try clear hfz16_6
        try clear hfz19_0
        try clear hfz19_1
        try clear hfz19_2
        try clear hfz19_3
        try clear hfz19_4
        try clear hfz19_5
        try clear hfz19_6
        try clear hfz4_0
        try clear hfz4_1
        try clear hfz4_2
        try clear hfz4_3
        try clear hfz4_4
        try clear hfz4_5
        try clear hfz4_6
        try clear hfz7_0
        try clear hfz7_1
        try clear hfz7_2
        try clear hfz7_3
        try clear hfz7_4
        try clear hfz7_5
        try clear hfz7_6
        try clear hx10_0
        try clear hx140_0
        try clear p1
        try clear p10
        try clear p140
        try clear p2
        try clear q1
        try clear q10
        try clear q140
        obtain ⟨kq, x3_14, HA, HJ14, HO_3, BK136, HB⟩ := hcut
        cases kq with
        | zero => exact absurd HA.out (by simp [silhouetteref12_one.j1])
        | succ kj14 =>
          have H := HA.out
          clear HA
          simp only [silhouetteref12_one.j1] at H
          replace H := Option.bind_eq_some_iff.mp H
          obtain ⟨t146, A220, H⟩ := H
          replace H : (if t146 = true then (if x3_14.length < 140737488355328 then (silhouetteref12_one.j2 kj14 (x3_14 ++ [(a0_4) % 256]) a0_0 a0_1 a0_2 a0_3 a0_4 a0_5 a0_6) else (none)) else (silhouetteref12_one.j2 kj14 x3_14 a0_0 a0_1 a0_2 a0_3 a0_4 a0_5 a0_6)) = some r := H
          have A22 := Aside0.mk A220
          clear A220
          have HC23 := Aside0.mk H
          clear H
          have hcz24_0 : wc.cell? ⟨gb136, 0, none⟩ = some (.int .i64 a0_0) := (blk_cell BK136.out 0).trans rfl
          have hcz24_1 : wc.cell? ⟨gb136, 1, none⟩ = some (.bool a0_1) := (blk_cell BK136.out 1).trans rfl
          have hcz24_2 : wc.cell? ⟨gb136, 2, none⟩ = some (.int .u64 a0_2) := (blk_cell BK136.out 2).trans rfl
          have hcz24_3 : wc.cell? ⟨gb136, 3, none⟩ = some (.int .u64 a0_3) := (blk_cell BK136.out 3).trans rfl
          have hcz24_4 : wc.cell? ⟨gb136, 4, none⟩ = some (.int .i64 a0_4) := (blk_cell BK136.out 4).trans rfl
          have hcz24_5 : wc.cell? ⟨gb136, 5, none⟩ = some (.int .i64 a0_5) := (blk_cell BK136.out 5).trans rfl
          have hcz24_6 : wc.cell? ⟨gb136, 6, none⟩ = some (.int .i64 a0_6) := (blk_cell BK136.out 6).trans rfl
          have hfz24_0 := blk_frozen BK136.out 0
          have hfz24_1 := blk_frozen BK136.out 1
          have hfz24_2 := blk_frozen BK136.out 2
          have hfz24_3 := blk_frozen BK136.out 3
          have hfz24_4 := blk_frozen BK136.out 4
          have hfz24_5 := blk_frozen BK136.out 5
          have hfz24_6 := blk_frozen BK136.out 6
          go_upto_if 25 with (first | ((with_reducible refine gate_callee (f := 20) rfl ?_); refine goesL_ (some 25) rfl rfl Try.func20 (by kernel_rfl) rfl #[.int .i64 a0_0, .int .u8 71] rfl (by (try simp only [List.map_toArray, List.map_cons, List.map_nil]); first | done | rfl | (simp only [List.length_drop, List.length_take]; rfl)) ?_; (with_reducible refine (silhouetteref12_has.calls kj14 a0_0 71 t146 _ A22.out).mono ?_); rintro e w' ⟨rfl, ⟨nd, rfl⟩⟩; refine ⟨_, rfl, ?_⟩))
          (try simp only [Act.put, List.setIfInBounds_toArray, List.set_cons_zero, List.set_cons_succ])
          go_cut [3] (fun v3 wc => ∃ (kq : Nat) (x3_22 : List Int), Aside0 (silhouetteref12_one.j2 kq x3_22 a0_0 a0_1 a0_2 a0_3 a0_4 a0_5 a0_6 = some r) ∧ Aside0 (kq ≤ kj14) ∧ Aside0 (Kd.R (Kd.int .u8) 5 wc w.heap.size (fun _ => True) v3 x3_22) ∧ Aside0 (wc.heap[gb136]? = some (.cells #[.int .i64 a0_0, .bool a0_1, .int .u64 a0_2, .int .u64 a0_3, .int .i64 a0_4, .int .i64 a0_5, .int .i64 a0_6] 31 (0, 0))) ∧ Aside0 (Below w.heap.size w wc))
          case first =>
            have H := HC23.out
            clear HC23
            by_cases c25 : t146 = true
            · subst c25
              have H1 : (if x3_14.length < 140737488355328 then (silhouetteref12_one.j2 kj14 (x3_14 ++ [(a0_4) % 256]) a0_0 a0_1 a0_2 a0_3 a0_4 a0_5 a0_6) else (none)) = some r := by rw [if_pos rfl] at H; exact H
              clear H
              have H := H1
              clear H1
              by_cases c26 : x3_14.length < 140737488355328
              · rw [if_pos c26] at H
                have LMc26 := Aside0.mk c26
                clear c26
                obtain ⟨y147, hy147⟩ : ∃ y_ : List Int, y_ = (x3_14 ++ [(a0_4) % 256]) := ⟨_, rfl⟩
                replace H : (silhouetteref12_one.j2 kj14 y147 a0_0 a0_1 a0_2 a0_3 a0_4 a0_5 a0_6) = some r := by first | (rw [hy147]; with_reducible exact H) | (have H2_ := (Option.bind_some _ _).symm.trans H; rw [hy147]; with_reducible exact H2_) | (have H2_ := (Option.bind_some _ _).symm.trans H; with_reducible exact H2_) | with_reducible exact H | (rw [hy147]; exact H) | exact H
                have Ny147 := Aside0.mk hy147
                clear hy147
                have H' := Aside0.mk H
                clear H
                have hcz27_0 : wc.cell? ⟨gb136, 0, none⟩ = some (.int .i64 a0_0) := (blk_cell BK136.out 0).trans rfl
                have hcz27_1 : wc.cell? ⟨gb136, 1, none⟩ = some (.bool a0_1) := (blk_cell BK136.out 1).trans rfl
                have hcz27_2 : wc.cell? ⟨gb136, 2, none⟩ = some (.int .u64 a0_2) := (blk_cell BK136.out 2).trans rfl
                have hcz27_3 : wc.cell? ⟨gb136, 3, none⟩ = some (.int .u64 a0_3) := (blk_cell BK136.out 3).trans rfl
                have hcz27_4 : wc.cell? ⟨gb136, 4, none⟩ = some (.int .i64 a0_4) := (blk_cell BK136.out 4).trans rfl
                have hcz27_5 : wc.cell? ⟨gb136, 5, none⟩ = some (.int .i64 a0_5) := (blk_cell BK136.out 5).trans rfl
                have hcz27_6 : wc.cell? ⟨gb136, 6, none⟩ = some (.int .i64 a0_6) := (blk_cell BK136.out 6).trans rfl
                have hfz27_0 := blk_frozen BK136.out 0
                have hfz27_1 := blk_frozen BK136.out 1
                have hfz27_2 := blk_frozen BK136.out 2
                have hfz27_3 := blk_frozen BK136.out 3
                have hfz27_4 := blk_frozen BK136.out 4
                have hfz27_5 := blk_frozen BK136.out 5
                have hfz27_6 := blk_frozen BK136.out 6
                go_wp2_with (first | ((with_reducible refine gate_builtin (b := .append) (xs := #[.tmp 26, .tmp 30]) rfl ?_); at_builtin; refine Kd.R_append (Kd.int .u8) (w0 := w) w.heap.size rfl (.tmp 26) (.tmp 30) 23 5 (.int .u8 0) 1 rfl Try.underlying23 info5 rfl (by decide) (by omega) u3 x3_14 ((a0_4) % 256) [.int .u8 ((a0_4) % 256)] (fun _ => True) (fun _ => False) rfl rfl ?aP (fun _ hk => hk.elim) ?aF ?aO ?aB ?aS ?aL ?_; (case aP => exact rfl); (case aB => exact (by repeat (first | (with_reducible first | exact HB.out | apply below_alloc | apply pw_below_drewN | apply below_drew1 | refine below_set ?_ GE136.out) | exact HB.out))); (case aF => exact (fun _ _ => trivial)); (case aO => exact (by (with_reducible repeat (first | apply Kd.R_alloc | apply Kd.R_drewN | apply Kd.R_drew)); exact HO_3.out)); (case aS => exact (below_size (by repeat (first | (with_reducible first | exact HB.out | apply below_alloc | apply pw_below_drewN | apply below_drew1 | refine below_set ?_ GE136.out) | exact HB.out)))); (case aL => have := LMc26.out; omega); intro v148 w28 ho hb hg hat; rw [← Ny147.out] at ho; have n0_ := Aside0.mk (blk_grown (g := gb136) (o := .cells #[.int .i64 a0_0, .bool a0_1, .int .u64 a0_2, .int .u64 a0_3, .int .i64 a0_4, .int .i64 a0_5, .int .i64 a0_6] 31 (0, 0)) (by (with_reducible repeat (first | refine blk_drewN ?_ _ | refine blk_drew ?_ | refine blk_alloc ?_ _)); exact BK136.out) hg (Kd.R_ne HO_3.out BK136.out (by decide))); have n1_ := Aside0.mk (hb); have n2_ := Aside0.mk (ho); clear BK136; clear HB; clear HO_3; have BK136 := n0_; have HB := n1_; have HO149 := n2_; clear n0_ n1_ n2_; clear ho hb hg hat))
                go_meet
                case rel => exact ⟨_, (y147), H', ⟨by have := HJ1.out; have := HJ14.out; first | omega | exact Nat.le_refl _⟩, ⟨by (with_reducible repeat (first | apply Kd.R_alloc | apply Kd.R_drewN | apply Kd.R_drew)); exact HO149.out⟩, ⟨by (with_reducible repeat (first | refine blk_drewN ?_ _ | refine blk_drew ?_ | refine blk_alloc ?_ _)); exact BK136.out⟩, ⟨by repeat (first | (with_reducible first | exact HB.out | apply below_alloc | apply pw_below_drewN | apply below_drew1 | refine below_set ?_ GE136.out) | exact HB.out)⟩⟩
              · rw [if_neg c26] at H
                exact absurd H (by simp)
            · replace c25 := Bool.eq_false_iff.mpr c25
              subst c25
              have H1 : (silhouetteref12_one.j2 kj14 x3_14 a0_0 a0_1 a0_2 a0_3 a0_4 a0_5 a0_6) = some r := by rw [if_neg (show ¬ (false = true) by decide)] at H; exact H
              clear H
              have H := H1
              clear H1
              have H' := Aside0.mk H
              clear H
              go_wp2
              go_meet
              case rel => exact ⟨_, (x3_14), H', ⟨by have := HJ1.out; have := HJ14.out; first | omega | exact Nat.le_refl _⟩, ⟨by (with_reducible repeat (first | apply Kd.R_alloc | apply Kd.R_drewN | apply Kd.R_drew)); exact HO_3.out⟩, ⟨by (with_reducible repeat (first | refine blk_drewN ?_ _ | refine blk_drew ?_ | refine blk_alloc ?_ _)); exact BK136.out⟩, ⟨by repeat (first | (with_reducible first | exact HB.out | apply below_alloc | apply pw_below_drewN | apply below_drew1 | refine below_set ?_ GE136.out) | exact HB.out)⟩⟩
          case rest =>
            clear HC23
            try clear c1
            try clear p1
            try clear q1
            try clear hx1
            try clear qi1
            try clear hf1
            try clear c2
            try clear p2
            try clear c8
            try clear c9
            try clear c9b0
            try clear c9b1
            try clear p10
            try clear q10
            try clear hx10
            try clear qi10
            try clear hf10
            try clear p14
            try clear q14
            try clear hx14
            try clear qi14
            try clear c17
            try clear c19
            try clear c20
            try clear c25
            try clear c26
            try clear hcz16_0
            try clear hcz16_1
            try clear hcz16_2
            try clear hcz16_3
            try clear hcz16_4
            try clear hcz16_5
            try clear hcz16_6
            try clear hcz19_0
            try clear hcz19_1
            try clear hcz19_2
            try clear hcz19_3
            try clear hcz19_4
            try clear hcz19_5
            try clear hcz19_6
            try clear hcz24_0
            try clear hcz24_1
            try clear hcz24_2
            try clear hcz24_3
            try clear hcz24_4
            try clear hcz24_5
            try clear hcz24_6
            try clear hcz27_0
            try clear hcz27_1
            try clear hcz27_2
            try clear hcz27_3
            try clear hcz27_4
            try clear hcz27_5
            try clear hcz27_6
            try clear hcz4_0
            try clear hcz4_1
            try clear hcz4_2
            try clear hcz4_3
            try clear hcz4_4
            try clear hcz4_5
            try clear hcz4_6
            try clear hcz7_0
            try clear hcz7_1
            try clear hcz7_2
            try clear hcz7_3
            try clear hcz7_4
            try clear hcz7_5
            try clear hcz7_6
            try clear hfz16_0
            try clear hfz16_1
            try clear hfz16_2
            try clear hfz16_3
            try clear hfz16_4
            try clear hfz16_5
            try clear hfz16_6
            try clear hfz19_0
            try clear hfz19_1
            try clear hfz19_2
            try clear hfz19_3
            try clear hfz19_4
            try clear hfz19_5
            try clear hfz19_6
            try clear hfz24_0
            try clear hfz24_1
            try clear hfz24_2
            try clear hfz24_3
            try clear hfz24_4
            try clear hfz24_5
            try clear hfz24_6
            try clear hfz27_0
            try clear hfz27_1
            try clear hfz27_2
            try clear hfz27_3
            try clear hfz27_4
            try clear hfz27_5
            try clear hfz27_6
            try clear hfz4_0
            try clear hfz4_1
            try clear hfz4_2
            try clear hfz4_3
            try clear hfz4_4
            try clear hfz4_5
            try clear hfz4_6
            try clear hfz7_0
            try clear hfz7_1
            try clear hfz7_2
            try clear hfz7_3
            try clear hfz7_4
            try clear hfz7_5
            try clear hfz7_6
            try clear hx10_0
            try clear hx140_0
            try clear p1
            try clear p10
            try clear p14
            try clear p140
            try clear p2
            try clear q1
            try clear q10
            try clear q14
            try clear q140
            obtain ⟨kq, x3_22, HA, HJ22, HO_3, BK136, HB⟩ := hcut
            cases kq with
            | zero => exact absurd HA.out (by simp [silhouetteref12_one.j2])
            | succ kj22 =>
              have H := HA.out
              clear HA
              simp only [silhouetteref12_one.j2] at H
              replace H := Option.bind_eq_some_iff.mp H
              obtain ⟨t150, A290, H⟩ := H
              replace H : (if t150 = true then (if x3_22.length < 140737488355328 then (silhouetteref12_one.j3 kj22 (x3_22 ++ [(a0_5) % 256]) a0_0 a0_1 a0_2 a0_3 a0_4 a0_5 a0_6) else (none)) else (silhouetteref12_one.j3 kj22 x3_22 a0_0 a0_1 a0_2 a0_3 a0_4 a0_5 a0_6)) = some r := H
              have A29 := Aside0.mk A290
              clear A290
              have HC30 := Aside0.mk H
              clear H
              have hcz31_0 : wc.cell? ⟨gb136, 0, none⟩ = some (.int .i64 a0_0) := (blk_cell BK136.out 0).trans rfl
              have hcz31_1 : wc.cell? ⟨gb136, 1, none⟩ = some (.bool a0_1) := (blk_cell BK136.out 1).trans rfl
              have hcz31_2 : wc.cell? ⟨gb136, 2, none⟩ = some (.int .u64 a0_2) := (blk_cell BK136.out 2).trans rfl
              have hcz31_3 : wc.cell? ⟨gb136, 3, none⟩ = some (.int .u64 a0_3) := (blk_cell BK136.out 3).trans rfl
              have hcz31_4 : wc.cell? ⟨gb136, 4, none⟩ = some (.int .i64 a0_4) := (blk_cell BK136.out 4).trans rfl
              have hcz31_5 : wc.cell? ⟨gb136, 5, none⟩ = some (.int .i64 a0_5) := (blk_cell BK136.out 5).trans rfl
              have hcz31_6 : wc.cell? ⟨gb136, 6, none⟩ = some (.int .i64 a0_6) := (blk_cell BK136.out 6).trans rfl
              have hfz31_0 := blk_frozen BK136.out 0
              have hfz31_1 := blk_frozen BK136.out 1
              have hfz31_2 := blk_frozen BK136.out 2
              have hfz31_3 := blk_frozen BK136.out 3
              have hfz31_4 := blk_frozen BK136.out 4
              have hfz31_5 := blk_frozen BK136.out 5
              have hfz31_6 := blk_frozen BK136.out 6
              go_upto_if 34 with (first | ((with_reducible refine gate_callee (f := 20) rfl ?_); refine goesL_ (some 34) rfl rfl Try.func20 (by kernel_rfl) rfl #[.int .i64 a0_0, .int .u8 73] rfl (by (try simp only [List.map_toArray, List.map_cons, List.map_nil]); first | done | rfl | (simp only [List.length_drop, List.length_take]; rfl)) ?_; (with_reducible refine (silhouetteref12_has.calls kj22 a0_0 73 t150 _ A29.out).mono ?_); rintro e w' ⟨rfl, ⟨nd, rfl⟩⟩; refine ⟨_, rfl, ?_⟩))
              (try simp only [Act.put, List.setIfInBounds_toArray, List.set_cons_zero, List.set_cons_succ])
              go_cut [3] (fun v3 wc => ∃ (kq : Nat) (x3_29 : List Int), Aside0 (silhouetteref12_one.j3 kq x3_29 a0_0 a0_1 a0_2 a0_3 a0_4 a0_5 a0_6 = some r) ∧ Aside0 (kq ≤ kj22) ∧ Aside0 (Kd.R (Kd.int .u8) 5 wc w.heap.size (fun _ => True) v3 x3_29) ∧ Aside0 (wc.heap[gb136]? = some (.cells #[.int .i64 a0_0, .bool a0_1, .int .u64 a0_2, .int .u64 a0_3, .int .i64 a0_4, .int .i64 a0_5, .int .i64 a0_6] 31 (0, 0))) ∧ Aside0 (Below w.heap.size w wc))
              case first =>
                have H := HC30.out
                clear HC30
                by_cases c32 : t150 = true
                · subst c32
                  have H1 : (if x3_22.length < 140737488355328 then (silhouetteref12_one.j3 kj22 (x3_22 ++ [(a0_5) % 256]) a0_0 a0_1 a0_2 a0_3 a0_4 a0_5 a0_6) else (none)) = some r := by rw [if_pos rfl] at H; exact H
                  clear H
                  have H := H1
                  clear H1
                  by_cases c33 : x3_22.length < 140737488355328
                  · rw [if_pos c33] at H
                    have LMc33 := Aside0.mk c33
                    clear c33
                    obtain ⟨y151, hy151⟩ : ∃ y_ : List Int, y_ = (x3_22 ++ [(a0_5) % 256]) := ⟨_, rfl⟩
                    replace H : (silhouetteref12_one.j3 kj22 y151 a0_0 a0_1 a0_2 a0_3 a0_4 a0_5 a0_6) = some r := by first | (rw [hy151]; with_reducible exact H) | (have H2_ := (Option.bind_some _ _).symm.trans H; rw [hy151]; with_reducible exact H2_) | (have H2_ := (Option.bind_some _ _).symm.trans H; with_reducible exact H2_) | with_reducible exact H | (rw [hy151]; exact H) | exact H
                    have Ny151 := Aside0.mk hy151
                    clear hy151
                    have H' := Aside0.mk H
                    clear H
                    have hcz34_0 : wc.cell? ⟨gb136, 0, none⟩ = some (.int .i64 a0_0) := (blk_cell BK136.out 0).trans rfl
                    have hcz34_1 : wc.cell? ⟨gb136, 1, none⟩ = some (.bool a0_1) := (blk_cell BK136.out 1).trans rfl
                    have hcz34_2 : wc.cell? ⟨gb136, 2, none⟩ = some (.int .u64 a0_2) := (blk_cell BK136.out 2).trans rfl
                    have hcz34_3 : wc.cell? ⟨gb136, 3, none⟩ = some (.int .u64 a0_3) := (blk_cell BK136.out 3).trans rfl
                    have hcz34_4 : wc.cell? ⟨gb136, 4, none⟩ = some (.int .i64 a0_4) := (blk_cell BK136.out 4).trans rfl
                    have hcz34_5 : wc.cell? ⟨gb136, 5, none⟩ = some (.int .i64 a0_5) := (blk_cell BK136.out 5).trans rfl
                    have hcz34_6 : wc.cell? ⟨gb136, 6, none⟩ = some (.int .i64 a0_6) := (blk_cell BK136.out 6).trans rfl
                    have hfz34_0 := blk_frozen BK136.out 0
                    have hfz34_1 := blk_frozen BK136.out 1
                    have hfz34_2 := blk_frozen BK136.out 2
                    have hfz34_3 := blk_frozen BK136.out 3
                    have hfz34_4 := blk_frozen BK136.out 4
                    have hfz34_5 := blk_frozen BK136.out 5
                    have hfz34_6 := blk_frozen BK136.out 6
                    go_wp2_with (first | ((with_reducible refine gate_builtin (b := .append) (xs := #[.tmp 35, .tmp 39]) rfl ?_); at_builtin; refine Kd.R_append (Kd.int .u8) (w0 := w) w.heap.size rfl (.tmp 35) (.tmp 39) 23 5 (.int .u8 0) 1 rfl Try.underlying23 info5 rfl (by decide) (by omega) u3 x3_22 ((a0_5) % 256) [.int .u8 ((a0_5) % 256)] (fun _ => True) (fun _ => False) rfl rfl ?aP (fun _ hk => hk.elim) ?aF ?aO ?aB ?aS ?aL ?_; (case aP => exact rfl); (case aB => exact (by repeat (first | (with_reducible first | exact HB.out | apply below_alloc | apply pw_below_drewN | apply below_drew1 | refine below_set ?_ GE136.out) | exact HB.out))); (case aF => exact (fun _ _ => trivial)); (case aO => exact (by (with_reducible repeat (first | apply Kd.R_alloc | apply Kd.R_drewN | apply Kd.R_drew)); exact HO_3.out)); (case aS => exact (below_size (by repeat (first | (with_reducible first | exact HB.out | apply below_alloc | apply pw_below_drewN | apply below_drew1 | refine below_set ?_ GE136.out) | exact HB.out)))); (case aL => have := LMc33.out; omega); intro v152 w35 ho hb hg hat; rw [← Ny151.out] at ho; have n0_ := Aside0.mk (blk_grown (g := gb136) (o := .cells #[.int .i64 a0_0, .bool a0_1, .int .u64 a0_2, .int .u64 a0_3, .int .i64 a0_4, .int .i64 a0_5, .int .i64 a0_6] 31 (0, 0)) (by (with_reducible repeat (first | refine blk_drewN ?_ _ | refine blk_drew ?_ | refine blk_alloc ?_ _)); exact BK136.out) hg (Kd.R_ne HO_3.out BK136.out (by decide))); have n1_ := Aside0.mk (hb); have n2_ := Aside0.mk (ho); clear BK136; clear HB; clear HO_3; have BK136 := n0_; have HB := n1_; have HO153 := n2_; clear n0_ n1_ n2_; clear ho hb hg hat))
                    go_meet
                    case rel => exact ⟨_, (y151), H', ⟨by have := HJ1.out; have := HJ14.out; have := HJ22.out; first | omega | exact Nat.le_refl _⟩, ⟨by (with_reducible repeat (first | apply Kd.R_alloc | apply Kd.R_drewN | apply Kd.R_drew)); exact HO153.out⟩, ⟨by (with_reducible repeat (first | refine blk_drewN ?_ _ | refine blk_drew ?_ | refine blk_alloc ?_ _)); exact BK136.out⟩, ⟨by repeat (first | (with_reducible first | exact HB.out | apply below_alloc | apply pw_below_drewN | apply below_drew1 | refine below_set ?_ GE136.out) | exact HB.out)⟩⟩
                  · rw [if_neg c33] at H
                    exact absurd H (by simp)
                · replace c32 := Bool.eq_false_iff.mpr c32
                  subst c32
                  have H1 : (silhouetteref12_one.j3 kj22 x3_22 a0_0 a0_1 a0_2 a0_3 a0_4 a0_5 a0_6) = some r := by rw [if_neg (show ¬ (false = true) by decide)] at H; exact H
                  clear H
                  have H := H1
                  clear H1
                  have H' := Aside0.mk H
                  clear H
                  go_wp2
                  go_meet
                  case rel => exact ⟨_, (x3_22), H', ⟨by have := HJ1.out; have := HJ14.out; have := HJ22.out; first | omega | exact Nat.le_refl _⟩, ⟨by (with_reducible repeat (first | apply Kd.R_alloc | apply Kd.R_drewN | apply Kd.R_drew)); exact HO_3.out⟩, ⟨by (with_reducible repeat (first | refine blk_drewN ?_ _ | refine blk_drew ?_ | refine blk_alloc ?_ _)); exact BK136.out⟩, ⟨by repeat (first | (with_reducible first | exact HB.out | apply below_alloc | apply pw_below_drewN | apply below_drew1 | refine below_set ?_ GE136.out) | exact HB.out)⟩⟩
              case rest =>
                clear HC30
                try clear c1
                try clear p1
                try clear q1
                try clear hx1
                try clear qi1
                try clear hf1
                try clear c2
                try clear p2
                try clear c3
                try clear c8
                try clear c9
                try clear c9b0
                try clear c9b1
                try clear p10
                try clear q10
                try clear hx10
                try clear qi10
                try clear hf10
                try clear p14
                try clear q14
                try clear hx14
                try clear qi14
                try clear c17
                try clear c19
                try clear c20
                try clear c25
                try clear c26
                try clear c32
                try clear c33
                try clear hcz16_0
                try clear hcz16_1
                try clear hcz16_2
                try clear hcz16_3
                try clear hcz16_4
                try clear hcz16_5
                try clear hcz16_6
                try clear hcz19_0
                try clear hcz19_1
                try clear hcz19_2
                try clear hcz19_3
                try clear hcz19_4
                try clear hcz19_5
                try clear hcz19_6
                try clear hcz24_0
                try clear hcz24_1
                try clear hcz24_2
                try clear hcz24_3
                try clear hcz24_4
                try clear hcz24_5
                try clear hcz24_6
                try clear hcz27_0
                try clear hcz27_1
                try clear hcz27_2
                try clear hcz27_3
                try clear hcz27_4
                try clear hcz27_5
                try clear hcz27_6
                try clear hcz31_0
                try clear hcz31_1
                try clear hcz31_2
                try clear hcz31_3
                try clear hcz31_4
                try clear hcz31_5
                try clear hcz31_6
                try clear hcz34_0
                try clear hcz34_1
                try clear hcz34_2
                try clear hcz34_3
                try clear hcz34_4
                try clear hcz34_5
                try clear hcz34_6
                try clear hcz4_0
                try clear hcz4_1
                try clear hcz4_2
                try clear hcz4_3
                try clear hcz4_4
                try clear hcz4_5
                try clear hcz4_6
                try clear hcz7_0
                try clear hcz7_1
                try clear hcz7_2
                try clear hcz7_3
                try clear hcz7_4
                try clear hcz7_5
                try clear hcz7_6
                try clear hfz16_0
                try clear hfz16_1
                try clear hfz16_2
                try clear hfz16_3
                try clear hfz16_4
                try clear hfz16_5
                try clear hfz16_6
                try clear hfz19_0
                try clear hfz19_1
                try clear hfz19_2
                try clear hfz19_3
                try clear hfz19_4
                try clear hfz19_5
                try clear hfz19_6
                try clear hfz24_0
                try clear hfz24_1
                try clear hfz24_2
                try clear hfz24_3
                try clear hfz24_4
                try clear hfz24_5
                try clear hfz24_6
                try clear hfz27_0
                try clear hfz27_1
                try clear hfz27_2
                try clear hfz27_3
                try clear hfz27_4
                try clear hfz27_5
                try clear hfz27_6
                try clear hfz31_0
                try clear hfz31_1
                try clear hfz31_2
                try clear hfz31_3
                try clear hfz31_4
                try clear hfz31_5
                try clear hfz31_6
                try clear hfz34_0
                try clear hfz34_1
                try clear hfz34_2
                try clear hfz34_3
                try clear hfz34_4
                try clear hfz34_5
                try clear hfz34_6
                try clear hfz4_0
                try clear hfz4_1
                try clear hfz4_2
                try clear hfz4_3
                try clear hfz4_4
                try clear hfz4_5
                try clear hfz4_6
                try clear hfz7_0
                try clear hfz7_1
                try clear hfz7_2
                try clear hfz7_3
                try clear hfz7_4
                try clear hfz7_5
                try clear hfz7_6
                try clear hx10_0
                try clear hx140_0
                try clear p1
                try clear p10
                try clear p14
                try clear p140
                try clear p2
                try clear q1
                try clear q10
                try clear q14
                try clear q140
                obtain ⟨kq, x3_29, HA, HJ29, HO_3, BK136, HB⟩ := hcut
                cases kq with
                | zero => exact absurd HA.out (by simp [silhouetteref12_one.j3])
                | succ kj29 =>
                  have H := HA.out
                  clear HA
                  simp only [silhouetteref12_one.j3] at H
                  replace H := Option.bind_eq_some_iff.mp H
                  obtain ⟨t154, A360, H⟩ := H
                  replace H : (if t154 = true then ((silhouetteref12_eight.f kj29 x3_29 a0_3).bind fun t155 => ((silhouetteref12_has.f kj29 a0_0 78).bind fun t158 => (if t158 = true then (if t155.length < 140737488355328 then (some (t155 ++ [(a0_6) % 256])) else (none)) else (some t155)))) else ((silhouetteref12_has.f kj29 a0_0 78).bind fun t162 => (if t162 = true then (if x3_29.length < 140737488355328 then (some (x3_29 ++ [(a0_6) % 256])) else (none)) else (some x3_29)))) = some r := H
                  have A36 := Aside0.mk A360
                  clear A360
                  by_cases c37 : t154 = true
                  · subst c37
                    have H1 : ((silhouetteref12_eight.f kj29 x3_29 a0_3).bind fun t155 => ((silhouetteref12_has.f kj29 a0_0 78).bind fun t158 => (if t158 = true then (if t155.length < 140737488355328 then (some (t155 ++ [(a0_6) % 256])) else (none)) else (some t155)))) = some r := by rw [if_pos rfl] at H; exact H
                    clear H
                    have H := H1
                    clear H1
                    replace H := Option.bind_eq_some_iff.mp H
                    obtain ⟨t155, A380, H⟩ := H
                    replace H : ((silhouetteref12_has.f kj29 a0_0 78).bind fun t158 => (if t158 = true then (if t155.length < 140737488355328 then (some (t155 ++ [(a0_6) % 256])) else (none)) else (some t155))) = some r := H
                    have A38 := Aside0.mk A380
                    clear A380
                    replace H := Option.bind_eq_some_iff.mp H
                    obtain ⟨t158, A390, H⟩ := H
                    replace H : (if t158 = true then (if t155.length < 140737488355328 then (some (t155 ++ [(a0_6) % 256])) else (none)) else (some t155)) = some r := H
                    have A39 := Aside0.mk A390
                    clear A390
                    by_cases c40 : t158 = true
                    · subst c40
                      have H1 : (if t155.length < 140737488355328 then (some (t155 ++ [(a0_6) % 256])) else (none)) = some r := by rw [if_pos rfl] at H; exact H
                      clear H
                      have H := H1
                      clear H1
                      by_cases c41 : t155.length < 140737488355328
                      · rw [if_pos c41] at H
                        have LMc41 := Aside0.mk c41
                        clear c41
                        obtain ⟨y159, hy159⟩ : ∃ y_ : List Int, y_ = (t155 ++ [(a0_6) % 256]) := ⟨_, rfl⟩
                        replace H : (some y159) = some r := by first | (rw [hy159]; with_reducible exact H) | (have H2_ := (Option.bind_some _ _).symm.trans H; rw [hy159]; with_reducible exact H2_) | (have H2_ := (Option.bind_some _ _).symm.trans H; with_reducible exact H2_) | with_reducible exact H | (rw [hy159]; exact H) | exact H
                        have Ny159 := Aside0.mk hy159
                        clear hy159
                        obtain rfl := Option.some.inj H
                        have hcz42_0 : wc.cell? ⟨gb136, 0, none⟩ = some (.int .i64 a0_0) := (blk_cell BK136.out 0).trans rfl
                        have hcz42_1 : wc.cell? ⟨gb136, 1, none⟩ = some (.bool a0_1) := (blk_cell BK136.out 1).trans rfl
                        have hcz42_2 : wc.cell? ⟨gb136, 2, none⟩ = some (.int .u64 a0_2) := (blk_cell BK136.out 2).trans rfl
                        have hcz42_3 : wc.cell? ⟨gb136, 3, none⟩ = some (.int .u64 a0_3) := (blk_cell BK136.out 3).trans rfl
                        have hcz42_4 : wc.cell? ⟨gb136, 4, none⟩ = some (.int .i64 a0_4) := (blk_cell BK136.out 4).trans rfl
                        have hcz42_5 : wc.cell? ⟨gb136, 5, none⟩ = some (.int .i64 a0_5) := (blk_cell BK136.out 5).trans rfl
                        have hcz42_6 : wc.cell? ⟨gb136, 6, none⟩ = some (.int .i64 a0_6) := (blk_cell BK136.out 6).trans rfl
                        have hfz42_0 := blk_frozen BK136.out 0
                        have hfz42_1 := blk_frozen BK136.out 1
                        have hfz42_2 := blk_frozen BK136.out 2
                        have hfz42_3 := blk_frozen BK136.out 3
                        have hfz42_4 := blk_frozen BK136.out 4
                        have hfz42_5 := blk_frozen BK136.out 5
                        have hfz42_6 := blk_frozen BK136.out 6
                        go_wp2_with (first | ((with_reducible refine gate_callee (f := 20) rfl ?_); refine goesL_ (some 43) rfl rfl Try.func20 (by kernel_rfl) rfl #[.int .i64 a0_0, .int .u8 86] rfl (by (try simp only [List.map_toArray, List.map_cons, List.map_nil]); first | done | rfl | (simp only [List.length_drop, List.length_take]; rfl)) ?_; (with_reducible refine (silhouetteref12_has.calls kj29 a0_0 86 true _ A36.out).mono ?_); rintro e w' ⟨rfl, ⟨nd, rfl⟩⟩; refine ⟨_, rfl, ?_⟩; obtain ⟨Ao43, co43, eo43⟩ := Kd.R_slice HO_3.out; subst eo43) | ((with_reducible refine gate_callee (f := 26) rfl ?_); refine goesL_ (some 47) rfl rfl Try.func26 (by kernel_rfl) rfl #[.slice Ao43 x3_29.length co43, .int .u64 a0_3] rfl (by (try simp only [List.map_toArray, List.map_cons, List.map_nil]); first | done | rfl | (simp only [List.length_drop, List.length_take]; rfl)) ?_; (with_reducible refine (silhouetteref12_eight.calls kj29 (fun k_ => some k_ = (.slice Ao43 x3_29.length co43 : Value).ownBlock) (.slice Ao43 x3_29.length co43) x3_29 a0_3 t155 w _ ?side1 ?side2 A38.out).mono ?_); (case side1 => repeat (first | (with_reducible first | exact HB.out | apply below_alloc | apply pw_below_drewN | apply below_drew1 | refine below_set ?_ GE136.out) | exact HB.out)); (case side2 => exact Kd.R_tight rfl HO_3.out); rintro e w44 ⟨v156, rfl, ho0, hb, hkp⟩; refine ⟨_, rfl, ?_⟩; have n0_ := Aside0.mk (blk_kept (by (with_reducible repeat (first | refine blk_drewN ?_ _ | refine blk_drew ?_ | refine blk_alloc ?_ _)); exact BK136.out) hkp (fun hs_ => (fun e_ => (Kd.R_ne HO_3.out BK136.out (by decide)) e_) hs_)); have n1_ := Aside0.mk (Kd.R_mono (ok' := fun k_ => True) ho0 (fun k_ hk_ => trivial)); have n2_ := Aside0.mk (hb); clear BK136; clear HB; clear HO_3; have BK136 := n0_; have HO157 := n1_; have HB := n2_; clear n0_ n1_ n2_; (try clear hb); (try clear hkp); (try clear ho0); have hcz45_0 : w44.cell? ⟨gb136, 0, none⟩ = some (.int .i64 a0_0) := (blk_cell BK136.out 0).trans rfl; have hcz45_1 : w44.cell? ⟨gb136, 1, none⟩ = some (.bool a0_1) := (blk_cell BK136.out 1).trans rfl; have hcz45_2 : w44.cell? ⟨gb136, 2, none⟩ = some (.int .u64 a0_2) := (blk_cell BK136.out 2).trans rfl; have hcz45_3 : w44.cell? ⟨gb136, 3, none⟩ = some (.int .u64 a0_3) := (blk_cell BK136.out 3).trans rfl; have hcz45_4 : w44.cell? ⟨gb136, 4, none⟩ = some (.int .i64 a0_4) := (blk_cell BK136.out 4).trans rfl; have hcz45_5 : w44.cell? ⟨gb136, 5, none⟩ = some (.int .i64 a0_5) := (blk_cell BK136.out 5).trans rfl; have hcz45_6 : w44.cell? ⟨gb136, 6, none⟩ = some (.int .i64 a0_6) := (blk_cell BK136.out 6).trans rfl; have hfz45_0 := blk_frozen BK136.out 0; have hfz45_1 := blk_frozen BK136.out 1; have hfz45_2 := blk_frozen BK136.out 2; have hfz45_3 := blk_frozen BK136.out 3; have hfz45_4 := blk_frozen BK136.out 4; have hfz45_5 := blk_frozen BK136.out 5; have hfz45_6 := blk_frozen BK136.out 6) | ((with_reducible refine gate_callee (f := 20) rfl ?_); refine goesL_ (some 50) rfl rfl Try.func20 (by kernel_rfl) rfl #[.int .i64 a0_0, .int .u8 78] rfl (by (try simp only [List.map_toArray, List.map_cons, List.map_nil]); first | done | rfl | (simp only [List.length_drop, List.length_take]; rfl)) ?_; (with_reducible refine (silhouetteref12_has.calls kj29 a0_0 78 true _ A39.out).mono ?_); rintro e w' ⟨rfl, ⟨nd, rfl⟩⟩; refine ⟨_, rfl, ?_⟩) | ((with_reducible refine gate_builtin (b := .append) (xs := #[.tmp 51, .tmp 55]) rfl ?_); at_builtin; refine Kd.R_append (Kd.int .u8) (w0 := w) w.heap.size rfl (.tmp 51) (.tmp 55) 23 5 (.int .u8 0) 1 rfl Try.underlying23 info5 rfl (by decide) (by omega) v156 t155 ((a0_6) % 256) [.int .u8 ((a0_6) % 256)] (fun _ => True) (fun _ => False) rfl rfl ?aP (fun _ hk => hk.elim) ?aF ?aO ?aB ?aS ?aL ?_; (case aP => exact rfl); (case aB => exact (by repeat (first | (with_reducible first | exact HB.out | apply below_alloc | apply pw_below_drewN | apply below_drew1 | refine below_set ?_ GE136.out) | exact HB.out))); (case aF => exact (fun _ _ => trivial)); (case aO => exact (by (with_reducible repeat (first | apply Kd.R_alloc | apply Kd.R_drewN | apply Kd.R_drew)); exact HO157.out)); (case aS => exact (below_size (by repeat (first | (with_reducible first | exact HB.out | apply below_alloc | apply pw_below_drewN | apply below_drew1 | refine below_set ?_ GE136.out) | exact HB.out)))); (case aL => have := LMc41.out; omega); intro v160 w46 ho hb hg hat; rw [← Ny159.out] at ho; have n0_ := Aside0.mk (blk_grown (g := gb136) (o := .cells #[.int .i64 a0_0, .bool a0_1, .int .u64 a0_2, .int .u64 a0_3, .int .i64 a0_4, .int .i64 a0_5, .int .i64 a0_6] 31 (0, 0)) (by (with_reducible repeat (first | refine blk_drewN ?_ _ | refine blk_drew ?_ | refine blk_alloc ?_ _)); exact BK136.out) hg (Kd.R_ne HO157.out BK136.out (by decide))); have n1_ := Aside0.mk (hb); have n2_ := Aside0.mk (ho); clear BK136; clear HB; clear HO157; have BK136 := n0_; have HB := n1_; have HO161 := n2_; clear n0_ n1_ n2_; clear ho hb hg hat))
                        go_ret
                        exact ⟨_, by first | rfl | (simp [errW_none, errW_some] <;> rfl) | (simp [*, errW_none, errW_some] <;> rfl), by (with_reducible repeat (first | apply Kd.R_alloc | apply Kd.R_drewN | apply Kd.R_drew)); exact HO161.out, by repeat (first | (with_reducible first | exact HB.out | apply below_alloc | apply pw_below_drewN | apply below_drew1 | refine below_set ?_ GE136.out) | exact HB.out)⟩
                      · rw [if_neg c41] at H
                        exact absurd H (by simp)
                    · replace c40 := Bool.eq_false_iff.mpr c40
                      subst c40
                      have H1 : (some t155) = some r := by rw [if_neg (show ¬ (false = true) by decide)] at H; exact H
                      clear H
                      have H := H1
                      clear H1
                      obtain rfl := Option.some.inj H
                      have hcz47_0 : wc.cell? ⟨gb136, 0, none⟩ = some (.int .i64 a0_0) := (blk_cell BK136.out 0).trans rfl
                      have hcz47_1 : wc.cell? ⟨gb136, 1, none⟩ = some (.bool a0_1) := (blk_cell BK136.out 1).trans rfl
                      have hcz47_2 : wc.cell? ⟨gb136, 2, none⟩ = some (.int .u64 a0_2) := (blk_cell BK136.out 2).trans rfl
                      have hcz47_3 : wc.cell? ⟨gb136, 3, none⟩ = some (.int .u64 a0_3) := (blk_cell BK136.out 3).trans rfl
                      have hcz47_4 : wc.cell? ⟨gb136, 4, none⟩ = some (.int .i64 a0_4) := (blk_cell BK136.out 4).trans rfl
                      have hcz47_5 : wc.cell? ⟨gb136, 5, none⟩ = some (.int .i64 a0_5) := (blk_cell BK136.out 5).trans rfl
                      have hcz47_6 : wc.cell? ⟨gb136, 6, none⟩ = some (.int .i64 a0_6) := (blk_cell BK136.out 6).trans rfl
                      have hfz47_0 := blk_frozen BK136.out 0
                      have hfz47_1 := blk_frozen BK136.out 1
                      have hfz47_2 := blk_frozen BK136.out 2
                      have hfz47_3 := blk_frozen BK136.out 3
                      have hfz47_4 := blk_frozen BK136.out 4
                      have hfz47_5 := blk_frozen BK136.out 5
                      have hfz47_6 := blk_frozen BK136.out 6
                      go_wp2_with (first | ((with_reducible refine gate_callee (f := 20) rfl ?_); refine goesL_ (some 43) rfl rfl Try.func20 (by kernel_rfl) rfl #[.int .i64 a0_0, .int .u8 86] rfl (by (try simp only [List.map_toArray, List.map_cons, List.map_nil]); first | done | rfl | (simp only [List.length_drop, List.length_take]; rfl)) ?_; (with_reducible refine (silhouetteref12_has.calls kj29 a0_0 86 true _ A36.out).mono ?_); rintro e w' ⟨rfl, ⟨nd, rfl⟩⟩; refine ⟨_, rfl, ?_⟩; obtain ⟨Ao48, co48, eo48⟩ := Kd.R_slice HO_3.out; subst eo48) | ((with_reducible refine gate_callee (f := 26) rfl ?_); refine goesL_ (some 47) rfl rfl Try.func26 (by kernel_rfl) rfl #[.slice Ao48 x3_29.length co48, .int .u64 a0_3] rfl (by (try simp only [List.map_toArray, List.map_cons, List.map_nil]); first | done | rfl | (simp only [List.length_drop, List.length_take]; rfl)) ?_; (with_reducible refine (silhouetteref12_eight.calls kj29 (fun k_ => some k_ = (.slice Ao48 x3_29.length co48 : Value).ownBlock) (.slice Ao48 x3_29.length co48) x3_29 a0_3 t155 w _ ?side1 ?side2 A38.out).mono ?_); (case side1 => repeat (first | (with_reducible first | exact HB.out | apply below_alloc | apply pw_below_drewN | apply below_drew1 | refine below_set ?_ GE136.out) | exact HB.out)); (case side2 => exact Kd.R_tight rfl HO_3.out); rintro e w49 ⟨v156, rfl, ho0, hb, hkp⟩; refine ⟨_, rfl, ?_⟩; have n0_ := Aside0.mk (blk_kept (by (with_reducible repeat (first | refine blk_drewN ?_ _ | refine blk_drew ?_ | refine blk_alloc ?_ _)); exact BK136.out) hkp (fun hs_ => (fun e_ => (Kd.R_ne HO_3.out BK136.out (by decide)) e_) hs_)); have n1_ := Aside0.mk (Kd.R_mono (ok' := fun k_ => True) ho0 (fun k_ hk_ => trivial)); have n2_ := Aside0.mk (hb); clear BK136; clear HB; clear HO_3; have BK136 := n0_; have HO157 := n1_; have HB := n2_; clear n0_ n1_ n2_; (try clear hb); (try clear hkp); (try clear ho0); have hcz50_0 : w49.cell? ⟨gb136, 0, none⟩ = some (.int .i64 a0_0) := (blk_cell BK136.out 0).trans rfl; have hcz50_1 : w49.cell? ⟨gb136, 1, none⟩ = some (.bool a0_1) := (blk_cell BK136.out 1).trans rfl; have hcz50_2 : w49.cell? ⟨gb136, 2, none⟩ = some (.int .u64 a0_2) := (blk_cell BK136.out 2).trans rfl; have hcz50_3 : w49.cell? ⟨gb136, 3, none⟩ = some (.int .u64 a0_3) := (blk_cell BK136.out 3).trans rfl; have hcz50_4 : w49.cell? ⟨gb136, 4, none⟩ = some (.int .i64 a0_4) := (blk_cell BK136.out 4).trans rfl; have hcz50_5 : w49.cell? ⟨gb136, 5, none⟩ = some (.int .i64 a0_5) := (blk_cell BK136.out 5).trans rfl; have hcz50_6 : w49.cell? ⟨gb136, 6, none⟩ = some (.int .i64 a0_6) := (blk_cell BK136.out 6).trans rfl; have hfz50_0 := blk_frozen BK136.out 0; have hfz50_1 := blk_frozen BK136.out 1; have hfz50_2 := blk_frozen BK136.out 2; have hfz50_3 := blk_frozen BK136.out 3; have hfz50_4 := blk_frozen BK136.out 4; have hfz50_5 := blk_frozen BK136.out 5; have hfz50_6 := blk_frozen BK136.out 6) | ((with_reducible refine gate_callee (f := 20) rfl ?_); refine goesL_ (some 50) rfl rfl Try.func20 (by kernel_rfl) rfl #[.int .i64 a0_0, .int .u8 78] rfl (by (try simp only [List.map_toArray, List.map_cons, List.map_nil]); first | done | rfl | (simp only [List.length_drop, List.length_take]; rfl)) ?_; (with_reducible refine (silhouetteref12_has.calls kj29 a0_0 78 false _ A39.out).mono ?_); rintro e w' ⟨rfl, ⟨nd, rfl⟩⟩; refine ⟨_, rfl, ?_⟩))
                      go_ret
                      exact ⟨_, by first | rfl | (simp [errW_none, errW_some] <;> rfl) | (simp [*, errW_none, errW_some] <;> rfl), by (with_reducible repeat (first | apply Kd.R_alloc | apply Kd.R_drewN | apply Kd.R_drew)); exact HO157.out, by repeat (first | (with_reducible first | exact HB.out | apply below_alloc | apply pw_below_drewN | apply below_drew1 | refine below_set ?_ GE136.out) | exact HB.out)⟩
                  · replace c37 := Bool.eq_false_iff.mpr c37
                    subst c37
                    have H1 : ((silhouetteref12_has.f kj29 a0_0 78).bind fun t162 => (if t162 = true then (if x3_29.length < 140737488355328 then (some (x3_29 ++ [(a0_6) % 256])) else (none)) else (some x3_29))) = some r := by rw [if_neg (show ¬ (false = true) by decide)] at H; exact H
                    clear H
                    have H := H1
                    clear H1
                    replace H := Option.bind_eq_some_iff.mp H
                    obtain ⟨t162, A510, H⟩ := H
                    replace H : (if t162 = true then (if x3_29.length < 140737488355328 then (some (x3_29 ++ [(a0_6) % 256])) else (none)) else (some x3_29)) = some r := H
                    have A51 := Aside0.mk A510
                    clear A510
                    by_cases c52 : t162 = true
                    · subst c52
                      have H1 : (if x3_29.length < 140737488355328 then (some (x3_29 ++ [(a0_6) % 256])) else (none)) = some r := by rw [if_pos rfl] at H; exact H
                      clear H
                      have H := H1
                      clear H1
                      by_cases c53 : x3_29.length < 140737488355328
                      · rw [if_pos c53] at H
                        have LMc53 := Aside0.mk c53
                        clear c53
                        obtain ⟨y163, hy163⟩ : ∃ y_ : List Int, y_ = (x3_29 ++ [(a0_6) % 256]) := ⟨_, rfl⟩
                        replace H : (some y163) = some r := by first | (rw [hy163]; with_reducible exact H) | (have H2_ := (Option.bind_some _ _).symm.trans H; rw [hy163]; with_reducible exact H2_) | (have H2_ := (Option.bind_some _ _).symm.trans H; with_reducible exact H2_) | with_reducible exact H | (rw [hy163]; exact H) | exact H
                        have Ny163 := Aside0.mk hy163
                        clear hy163
                        obtain rfl := Option.some.inj H
                        have hcz54_0 : wc.cell? ⟨gb136, 0, none⟩ = some (.int .i64 a0_0) := (blk_cell BK136.out 0).trans rfl
                        have hcz54_1 : wc.cell? ⟨gb136, 1, none⟩ = some (.bool a0_1) := (blk_cell BK136.out 1).trans rfl
                        have hcz54_2 : wc.cell? ⟨gb136, 2, none⟩ = some (.int .u64 a0_2) := (blk_cell BK136.out 2).trans rfl
                        have hcz54_3 : wc.cell? ⟨gb136, 3, none⟩ = some (.int .u64 a0_3) := (blk_cell BK136.out 3).trans rfl
                        have hcz54_4 : wc.cell? ⟨gb136, 4, none⟩ = some (.int .i64 a0_4) := (blk_cell BK136.out 4).trans rfl
                        have hcz54_5 : wc.cell? ⟨gb136, 5, none⟩ = some (.int .i64 a0_5) := (blk_cell BK136.out 5).trans rfl
                        have hcz54_6 : wc.cell? ⟨gb136, 6, none⟩ = some (.int .i64 a0_6) := (blk_cell BK136.out 6).trans rfl
                        have hfz54_0 := blk_frozen BK136.out 0
                        have hfz54_1 := blk_frozen BK136.out 1
                        have hfz54_2 := blk_frozen BK136.out 2
                        have hfz54_3 := blk_frozen BK136.out 3
                        have hfz54_4 := blk_frozen BK136.out 4
                        have hfz54_5 := blk_frozen BK136.out 5
                        have hfz54_6 := blk_frozen BK136.out 6
                        go_wp2_with (first | ((with_reducible refine gate_callee (f := 20) rfl ?_); refine goesL_ (some 43) rfl rfl Try.func20 (by kernel_rfl) rfl #[.int .i64 a0_0, .int .u8 86] rfl (by (try simp only [List.map_toArray, List.map_cons, List.map_nil]); first | done | rfl | (simp only [List.length_drop, List.length_take]; rfl)) ?_; (with_reducible refine (silhouetteref12_has.calls kj29 a0_0 86 false _ A36.out).mono ?_); rintro e w' ⟨rfl, ⟨nd, rfl⟩⟩; refine ⟨_, rfl, ?_⟩) | ((with_reducible refine gate_callee (f := 20) rfl ?_); refine goesL_ (some 50) rfl rfl Try.func20 (by kernel_rfl) rfl #[.int .i64 a0_0, .int .u8 78] rfl (by (try simp only [List.map_toArray, List.map_cons, List.map_nil]); first | done | rfl | (simp only [List.length_drop, List.length_take]; rfl)) ?_; (with_reducible refine (silhouetteref12_has.calls kj29 a0_0 78 true _ A51.out).mono ?_); rintro e w' ⟨rfl, ⟨nd, rfl⟩⟩; refine ⟨_, rfl, ?_⟩) | ((with_reducible refine gate_builtin (b := .append) (xs := #[.tmp 51, .tmp 55]) rfl ?_); at_builtin; refine Kd.R_append (Kd.int .u8) (w0 := w) w.heap.size rfl (.tmp 51) (.tmp 55) 23 5 (.int .u8 0) 1 rfl Try.underlying23 info5 rfl (by decide) (by omega) u3 x3_29 ((a0_6) % 256) [.int .u8 ((a0_6) % 256)] (fun _ => True) (fun _ => False) rfl rfl ?aP (fun _ hk => hk.elim) ?aF ?aO ?aB ?aS ?aL ?_; (case aP => exact rfl); (case aB => exact (by repeat (first | (with_reducible first | exact HB.out | apply below_alloc | apply pw_below_drewN | apply below_drew1 | refine below_set ?_ GE136.out) | exact HB.out))); (case aF => exact (fun _ _ => trivial)); (case aO => exact (by (with_reducible repeat (first | apply Kd.R_alloc | apply Kd.R_drewN | apply Kd.R_drew)); exact HO_3.out)); (case aS => exact (below_size (by repeat (first | (with_reducible first | exact HB.out | apply below_alloc | apply pw_below_drewN | apply below_drew1 | refine below_set ?_ GE136.out) | exact HB.out)))); (case aL => have := LMc53.out; omega); intro v164 w55 ho hb hg hat; rw [← Ny163.out] at ho; have n0_ := Aside0.mk (blk_grown (g := gb136) (o := .cells #[.int .i64 a0_0, .bool a0_1, .int .u64 a0_2, .int .u64 a0_3, .int .i64 a0_4, .int .i64 a0_5, .int .i64 a0_6] 31 (0, 0)) (by (with_reducible repeat (first | refine blk_drewN ?_ _ | refine blk_drew ?_ | refine blk_alloc ?_ _)); exact BK136.out) hg (Kd.R_ne HO_3.out BK136.out (by decide))); have n1_ := Aside0.mk (hb); have n2_ := Aside0.mk (ho); clear BK136; clear HB; clear HO_3; have BK136 := n0_; have HB := n1_; have HO165 := n2_; clear n0_ n1_ n2_; clear ho hb hg hat))
                        go_ret
                        exact ⟨_, by first | rfl | (simp [errW_none, errW_some] <;> rfl) | (simp [*, errW_none, errW_some] <;> rfl), by (with_reducible repeat (first | apply Kd.R_alloc | apply Kd.R_drewN | apply Kd.R_drew)); exact HO165.out, by repeat (first | (with_reducible first | exact HB.out | apply below_alloc | apply pw_below_drewN | apply below_drew1 | refine below_set ?_ GE136.out) | exact HB.out)⟩
                      · rw [if_neg c53] at H
                        exact absurd H (by simp)
                    · replace c52 := Bool.eq_false_iff.mpr c52
                      subst c52
                      have H1 : (some x3_29) = some r := by rw [if_neg (show ¬ (false = true) by decide)] at H; exact H
                      clear H
                      have H := H1
                      clear H1
                      obtain rfl := Option.some.inj H
                      have hcz56_0 : wc.cell? ⟨gb136, 0, none⟩ = some (.int .i64 a0_0) := (blk_cell BK136.out 0).trans rfl
                      have hcz56_1 : wc.cell? ⟨gb136, 1, none⟩ = some (.bool a0_1) := (blk_cell BK136.out 1).trans rfl
                      have hcz56_2 : wc.cell? ⟨gb136, 2, none⟩ = some (.int .u64 a0_2) := (blk_cell BK136.out 2).trans rfl
                      have hcz56_3 : wc.cell? ⟨gb136, 3, none⟩ = some (.int .u64 a0_3) := (blk_cell BK136.out 3).trans rfl
                      have hcz56_4 : wc.cell? ⟨gb136, 4, none⟩ = some (.int .i64 a0_4) := (blk_cell BK136.out 4).trans rfl
                      have hcz56_5 : wc.cell? ⟨gb136, 5, none⟩ = some (.int .i64 a0_5) := (blk_cell BK136.out 5).trans rfl
                      have hcz56_6 : wc.cell? ⟨gb136, 6, none⟩ = some (.int .i64 a0_6) := (blk_cell BK136.out 6).trans rfl
                      have hfz56_0 := blk_frozen BK136.out 0
                      have hfz56_1 := blk_frozen BK136.out 1
                      have hfz56_2 := blk_frozen BK136.out 2
                      have hfz56_3 := blk_frozen BK136.out 3
                      have hfz56_4 := blk_frozen BK136.out 4
                      have hfz56_5 := blk_frozen BK136.out 5
                      have hfz56_6 := blk_frozen BK136.out 6
                      go_wp2_with (first | ((with_reducible refine gate_callee (f := 20) rfl ?_); refine goesL_ (some 43) rfl rfl Try.func20 (by kernel_rfl) rfl #[.int .i64 a0_0, .int .u8 86] rfl (by (try simp only [List.map_toArray, List.map_cons, List.map_nil]); first | done | rfl | (simp only [List.length_drop, List.length_take]; rfl)) ?_; (with_reducible refine (silhouetteref12_has.calls kj29 a0_0 86 false _ A36.out).mono ?_); rintro e w' ⟨rfl, ⟨nd, rfl⟩⟩; refine ⟨_, rfl, ?_⟩) | ((with_reducible refine gate_callee (f := 20) rfl ?_); refine goesL_ (some 50) rfl rfl Try.func20 (by kernel_rfl) rfl #[.int .i64 a0_0, .int .u8 78] rfl (by (try simp only [List.map_toArray, List.map_cons, List.map_nil]); first | done | rfl | (simp only [List.length_drop, List.length_take]; rfl)) ?_; (with_reducible refine (silhouetteref12_has.calls kj29 a0_0 78 false _ A51.out).mono ?_); rintro e w' ⟨rfl, ⟨nd, rfl⟩⟩; refine ⟨_, rfl, ?_⟩))
                      go_ret
                      exact ⟨_, by first | rfl | (simp [errW_none, errW_some] <;> rfl) | (simp [*, errW_none, errW_some] <;> rfl), by (with_reducible repeat (first | apply Kd.R_alloc | apply Kd.R_drewN | apply Kd.R_drew)); exact HO_3.out, by repeat (first | (with_reducible first | exact HB.out | apply below_alloc | apply pw_below_drewN | apply below_drew1 | refine below_set ?_ GE136.out) | exact HB.out)⟩

end Go.Proofs.Ytmifcdmkobammaa.Q
