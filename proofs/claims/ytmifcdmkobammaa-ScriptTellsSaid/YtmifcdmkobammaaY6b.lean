-- PRINTED by print.py (a twelfth state) out of the translation. Not trusted: Lean checks it.
import Derived.Test.YtmifcdmkobammaaQx0
import Derived.Test.YtmifcdmkobammaaRefAll
import Derived.Test.YtmifcdmkobammaaY3
import Derived.Test.YtmifcdmkobammaaY4
import Derived.Test.YtmifcdmkobammaaY5
import Derived.Test.YtmifcdmkobammaaY6a
namespace Go.Proofs.Ytmifcdmkobammaa.Q
open Go.RowKit Go.Proofs.YtmifcdmkobammaaW.PrintWords Go.Proofs.YtmifcdmkobammaaW.PrintLast Go.Proofs.YtmifcdmkobammaaW.PrintMore
open Go.Proofs.Ytmifcdmkobammaa.ScriptWalk (silhouetteref12_Right.f silhouetteref12_Right.calls)
attribute [local go_sem] max2_int min2_int max_two min_two max_three min_three max_four min_four   -- for this text's walks alone
set_option linter.unusedVariables false
set_option linter.unusedSimpArgs false

/-! ### silhouetteref12_Get, walked -/
def silhouetteref12_Get.T4 : Bool × List (List Nat × List Nat) := (true, [([], []), ([], []), ([0, 1], [0, 1]), ([2], [2]), ([3], [3]), ([4], [4]), ([], []), ([], []), ([6, 7], [6, 7]), ([8], [8]), ([9], [9]), ([5, 10], [5, 10]), ([], []), ([12, 11, 0, 1, 2, 3, 4, 5, 6, 7, 8, 9, 10, 11, 12], [11, 12])])
def silhouetteref12_Get.B4 : List Nat := [0, 0, 3, 7, 15, 31, 0, 0, 192, 448, 960, 2047, 0, 8191]
theorem silhouetteref12_Get.tab4 : rtab .any (opsOf Try.f12 4) = silhouetteref12_Get.T4 := by kernel_rfl
theorem silhouetteref12_Get.bits4 : waitsOk silhouetteref12_Get.T4.2 silhouetteref12_Get.B4 = true := by kernel_rfl
set_option maxHeartbeats 8000000 in
set_option maxRecDepth 100000 in
theorem silhouetteref12_Get.calls (k : Nat) (A0 : Option Addr) (c0 : Nat) (l0 : List Int) (r1 : List (S31)) (r2 : Int) (r3 : Int) (w : World) (hr0 : Kd.C (Kd.int .u8) w A0 l0.length l0) (hc0 : l0.length ≤ c0) (h : silhouetteref12_Get.f k l0 = some (r1, r2, r3)) :
    Calls Try.prog 12 #[.slice A0 l0.length c0] w fun e w' => ∃ v0_ : Value, e = .returned (.tuple #[v0_, .int .i64 r2, .int .i64 r3]) ∧ Kd.R k31 31 w' w.heap.size (fun _ => True) v0_ r1 ∧ Below w.heap.size w w' := by
  have hu31 := Try.underlying31
  have HR0 := Aside0.mk hr0
  have HC0 := Aside0.mk hc0
  clear hr0 hc0
  have HB := Aside0.mk (Below.refl w.heap.size w)
  have H : (silhouetteref12_Get.l0 k l0 ([] : List (S31)) 0) = some (r1, r2, r3) := h
  clear h
  have H' := Aside0.mk H
  clear H
  go_enter Try.func12, Try.ntmps12
  go_wp2
  go_loopg [5, 6] k (fun kq v5 v6 w' => ∃ (x5_1 : List (S31)) (x6_1 : Int), v6 = .int .i64 x6_1 ∧ Aside0 (silhouetteref12_Get.l0 kq l0 x5_1 x6_1 = some (r1, r2, r3)) ∧ Aside0 (kq ≤ k) ∧ Aside0 (Kd.R k31 31 w' w.heap.size (fun _ => True) v5 x5_1) ∧ Aside0 (Below w.heap.size w w'))
  case atStart => exact ⟨(([] : List (S31))), (0), (by first | rfl | (simp; done) | (simp [*]; done)), H', ⟨Nat.le_refl _⟩, ⟨by first | exact Kd.R_nil _ _ _ _ _ | exact Kd.N_nil _ _ _ _ _ | exact Kd.V_nil _ _ _ _ _ | exact Kd.Q_nil _ _ _ _ _ | exact Kd.S_nil _ _ _ _ _⟩, ⟨by repeat (first | (with_reducible first | exact HB.out | apply below_alloc | apply pw_below_drewN | apply below_drew1) | exact HB.out)⟩⟩
  case round =>
    clear H'
    try clear c1
    obtain ⟨x5_1, x6_1, rfl, HA, HK1, HO_5, HB⟩ := hrel
    cases gk with
    | zero => exact absurd HA.out (by simp [silhouetteref12_Get.l0])
    | succ k1 =>
      have H := HA.out
      clear HA
      simp only [silhouetteref12_Get.l0] at H
      by_cases c2 : x6_1 < (l0.length : Int)
      · rw [if_pos c2] at H
        have c2b0 : decide (x6_1 < (l0.length : Int)) = true := decide_eq_true c2
        clear c2
        by_cases c3 : 0 ≤ x6_1
        · rw [if_pos c3] at H
          have c3b0 : decide (0 ≤ x6_1) = true := decide_eq_true c3
          clear c3
          by_cases c4 : (wrap64 (Int.tmod (rd l0 x6_1) 128)) > 8
          · rw [if_pos c4] at H
            have c4b0 : decide (8 < (wrap64 (Int.tmod (rd l0 x6_1) 128))) = true := decide_eq_true c4
            clear c4
            simp only [Option.some.injEq, Prod.mk.injEq] at H
            obtain ⟨rfl, rfl, rfl⟩ := H
            try go_wp2
            have n0_ := Aside0.mk (Kd.R_drew HO_5.out)
            have n1_ := Aside0.mk (below_drew1 HB.out)
            clear HO_5
            clear HB
            have HO_5 := n0_
            have HB := n1_
            clear n0_ n1_
            have p167 : 0 ≤ (x6_1 : Int) := of_decide_eq_true (by first | (with_reducible assumption) | assumption)
            have q167 : x6_1 < (l0.length : Int) := of_decide_eq_true (by first | (with_reducible assumption) | assumption)
            obtain ⟨ad167, e167, hx167_0⟩ := Kd.at_int HR0.out x6_1 p167 q167
            have hw167_0 := hx167_0
            cases e167
            replace hx167_0 := (HB.out.cell (World.block_lt_of_cell? w _ hx167_0)).trans hx167_0
            replace p167 := eq_true p167
            replace q167 := eq_true q167
            have p168 : 0 ≤ (x6_1 : Int) := of_decide_eq_true (by first | (with_reducible assumption) | assumption)
            have q168 : x6_1 < (l0.length : Int) := of_decide_eq_true (by first | (with_reducible assumption) | assumption)
            obtain ⟨ad168, e168, hx168_0⟩ := Kd.at_int HR0.out x6_1 p168 q168
            have hw168_0 := hx168_0
            obtain rfl : ad167 = ad168 := (by injection e168)
            replace hx168_0 := (HB.out.cell (World.block_lt_of_cell? w _ hx168_0)).trans hx168_0
            replace p168 := eq_true p168
            replace q168 := eq_true q168
            refine start_ (n := 14) (S := fun w' => w'.cell? (ad167.add (x6_1).toNat) = some (.int .u8 (rd l0 x6_1)) ∧ w'.cell? (ad167.add (x6_1).toNat) = some (.int .u8 (rd l0 x6_1))) (ds := []) #[false, false, false, false, false, false, false, false, false, false, false, false, false, false] (by kernel_rfl) rfl rfl ⟨((HB.out.cell (World.block_lt_of_cell? w _ hw167_0)).trans hw167_0), ((HB.out.cell (World.block_lt_of_cell? w _ hw168_0)).trans hw168_0)⟩ (fun hHeld => ?_); refine with_tabW silhouetteref12_Get.tab4 silhouetteref12_Get.bits4 (fun HT_ HW_ => ?_)
            generalize wr.drew = w5 at HO_5 HB hx167_0 hx168_0 hHeld ⊢
            refine pure_ (i := 0) (N := some 14) (v := ?_) (a' := ?_) #[true, false, false, false, false, false, false, false, false, false, false, false, false, false] rfl rfl (any_of HT_.out (by kernel_rfl)) (fun _ _ _ h => h) (Or.inl ⟨by rfl, ?_⟩) ?_ ?_
            rotate_left
            · intro w'
              go_simp
              with_reducible rfl
            rotate_left
            · simp only [Act.put, List.setIfInBounds_toArray, List.set_cons_zero, List.set_cons_succ, i64_w, i32_w]
              rfl
            refine pure_ (i := 1) (N := some 15) (v := ?_) (a' := ?_) #[true, true, false, false, false, false, false, false, false, false, false, false, false, false] rfl rfl (any_of HT_.out (by kernel_rfl)) (fun _ _ _ h => h) (Or.inl ⟨by rfl, ?_⟩) ?_ ?_
            rotate_left
            · intro w'
              go_simp
              with_reducible rfl
            rotate_left
            · simp only [Act.put, List.setIfInBounds_toArray, List.set_cons_zero, List.set_cons_succ, i64_w, i32_w]
              rfl
            refine pure_ (i := 2) (N := some 16) (v := ?_) (a' := ?_) #[true, true, true, false, false, false, false, false, false, false, false, false, false, false] rfl rfl (any_of HT_.out (by kernel_rfl)) (fun _ _ _ h => h) (Or.inl ⟨by rfl, ?_⟩) ?_ ?_
            rotate_left
            · intro w'
              go_simp
              with_reducible rfl
            rotate_left
            · simp only [Act.put, List.setIfInBounds_toArray, List.set_cons_zero, List.set_cons_succ, i64_w, i32_w]
              rfl
            refine pure_ (i := 6) (N := some 20) (v := ?_) (a' := ?_) #[true, true, true, false, false, false, true, false, false, false, false, false, false, false] rfl rfl (any_of HT_.out (by kernel_rfl)) (fun _ _ _ h => h) (Or.inl ⟨by rfl, ?_⟩) ?_ ?_
            rotate_left
            · intro w'
              go_simp
              with_reducible rfl
            rotate_left
            · simp only [Act.put, List.setIfInBounds_toArray, List.set_cons_zero, List.set_cons_succ, i64_w, i32_w]
              rfl
            refine pure_ (i := 7) (N := some 21) (v := ?_) (a' := ?_) #[true, true, true, false, false, false, true, true, false, false, false, false, false, false] rfl rfl (any_of HT_.out (by kernel_rfl)) (fun _ _ _ h => h) (Or.inl ⟨by rfl, ?_⟩) ?_ ?_
            rotate_left
            · intro w'
              go_simp
              with_reducible rfl
            rotate_left
            · simp only [Act.put, List.setIfInBounds_toArray, List.set_cons_zero, List.set_cons_succ, i64_w, i32_w]
              rfl
            refine pure_ (i := 8) (N := some 22) (v := ?_) (a' := ?_) #[true, true, true, false, false, false, true, true, true, false, false, false, false, false] rfl rfl (any_of HT_.out (by kernel_rfl)) (fun _ _ _ h => h) (Or.inl ⟨by rfl, ?_⟩) ?_ ?_
            rotate_left
            · intro w'
              go_simp
              with_reducible rfl
            rotate_left
            · simp only [Act.put, List.setIfInBounds_toArray, List.set_cons_zero, List.set_cons_succ, i64_w, i32_w]
              rfl
            refine take_ (i := 3) (N := some 17) (v := ?_) (a' := ?_) #[true, true, true, true, false, false, true, true, true, false, false, false, false, false] rfl rfl (take_ofW HT_.out HW_.out (by kernel_rfl)) (fun _ _ _ h => h) (Or.inl ⟨by rfl, ?_⟩) hHeld ?_ ?_
            rotate_left
            · rintro w' ⟨s0, s1⟩
              go_simp
              with_reducible rfl
            rotate_left
            · simp only [Act.put, List.setIfInBounds_toArray, List.set_cons_zero, List.set_cons_succ, i64_w, i32_w]
              rfl
            refine pure_ (i := 4) (N := some 18) (v := ?_) (a' := ?_) #[true, true, true, true, true, false, true, true, true, false, false, false, false, false] rfl rfl (any_of HT_.out (by kernel_rfl)) (fun _ _ _ h => h) (Or.inl ⟨by rfl, ?_⟩) ?_ ?_
            rotate_left
            · intro w'
              go_simp
              with_reducible rfl
            rotate_left
            · simp only [Act.put, List.setIfInBounds_toArray, List.set_cons_zero, List.set_cons_succ, i64_w, i32_w]
              rfl
            refine pure_ (i := 5) (N := some 19) (v := ?_) (a' := ?_) #[true, true, true, true, true, true, true, true, true, false, false, false, false, false] rfl rfl (any_of HT_.out (by kernel_rfl)) (fun _ _ _ h => h) (Or.inl ⟨by rfl, ?_⟩) ?_ ?_
            rotate_left
            · intro w'
              go_simp
              with_reducible rfl
            rotate_left
            · simp only [Act.put, List.setIfInBounds_toArray, List.set_cons_zero, List.set_cons_succ, i64_w, i32_w]
              rfl
            refine take_ (i := 9) (N := some 23) (v := ?_) (a' := ?_) #[true, true, true, true, true, true, true, true, true, true, false, false, false, false] rfl rfl (take_ofW HT_.out HW_.out (by kernel_rfl)) (fun _ _ _ h => h) (Or.inl ⟨by rfl, ?_⟩) hHeld ?_ ?_
            rotate_left
            · rintro w' ⟨s0, s1⟩
              go_simp
              with_reducible rfl
            rotate_left
            · simp only [Act.put, List.setIfInBounds_toArray, List.set_cons_zero, List.set_cons_succ, i64_w, i32_w]
              rfl
            refine pure_ (i := 10) (N := some 24) (v := ?_) (a' := ?_) #[true, true, true, true, true, true, true, true, true, true, true, false, false, false] rfl rfl (any_of HT_.out (by kernel_rfl)) (fun _ _ _ h => h) (Or.inl ⟨by rfl, ?_⟩) ?_ ?_
            rotate_left
            · intro w'
              go_simp
              with_reducible rfl
            rotate_left
            · simp only [Act.put, List.setIfInBounds_toArray, List.set_cons_zero, List.set_cons_succ, i64_w, i32_w]
              rfl
            refine pure_ (i := 11) (N := some 25) (v := ?_) (a' := ?_) #[true, true, true, true, true, true, true, true, true, true, true, true, false, false] rfl rfl (any_of HT_.out (by kernel_rfl)) (fun _ _ _ h => h) (Or.inl ⟨by rfl, ?_⟩) ?_ ?_
            rotate_left
            · intro w'
              go_simp
              with_reducible rfl
            rotate_left
            · simp only [Act.put, List.setIfInBounds_toArray, List.set_cons_zero, List.set_cons_succ, i64_w, i32_w]
              rfl
            refine one_ (i := 12) (N := some 7) #[true, true, true, true, true, true, true, true, true, true, true, true, true, false] rfl rfl (one_of HT_.out (by kernel_rfl)) (by decide) (fun K hK => ?_)
            refine box_step ?hg (N := 7) ?hd (cs := #[.int .i64 0, .bool false, .int .u64 0, .int .u64 0, .int .i64 0, .int .i64 0, .int .i64 0]) (t := 31) ?hr ?_; (case hd => rfl); (case hg => rfl); (case hr => first | (go_simp; done) | (go_simp; rfl))
            intro gb169 hg w6 hbox hb
            have n0_ := Aside0.mk (Kd.R_below (Kd.R_elderB (by (with_reducible repeat (first | apply Kd.R_alloc | apply Kd.R_drewN | apply Kd.R_drew)); exact HO_5.out) gb169 (Nat.le_of_eq hg.symm)) hb)
            have n1_ := Aside0.mk (below_step (by repeat (first | (with_reducible first | exact HB.out | apply below_alloc | apply pw_below_drewN | apply below_drew1) | exact HB.out)) hb)
            have n2_ := Aside0.mk (hbox)
            have n3_ := Aside0.mk ((by rw [hg]; exact (below_size (by repeat (first | (with_reducible first | exact HB.out | apply below_alloc | apply pw_below_drewN | apply below_drew1) | exact HB.out))) : w.heap.size ≤ gb169))
            have n4_ := Aside0.mk ((by rw [hg]; exact (below_size (by repeat (first | (with_reducible first | exact HB.out | apply below_alloc | apply pw_below_drewN | apply below_drew1) | exact HB.out))) : w.heap.size ≤ gb169))
            clear HO_5
            clear HB
            have HO_5 := n0_
            have HB := n1_
            have BK169 := n2_
            have GW169 := n3_
            have GE169 := n4_
            clear n0_ n1_ n2_ n3_ n4_
            clear hb hbox hg
            refine hK.out _ _ ⟨((HB.out.cell (World.block_lt_of_cell? w _ hw167_0)).trans hw167_0), ((HB.out.cell (World.block_lt_of_cell? w _ hw168_0)).trans hw168_0)⟩ (fun hHeld => ?_)
            clear hK K
            refine norm_ (a' := ?_) ?_ ?_
            rotate_left
            · show Act.put _ (some 7) _ = _
              simp only [Act.put, List.setIfInBounds_toArray, List.set_cons_zero, List.set_cons_succ, i64_w, i32_w]
              rfl
            refine one_ (i := 13) (N := none) #[true, true, true, true, true, true, true, true, true, true, true, true, true, true] rfl rfl (one_of HT_.out (by kernel_rfl)) (by decide) (fun K hK => ?_)
            have hs7 : w6.cell? ⟨gb169, 0, none⟩ = some (.int .i64 0) := (blk_cell BK169.out 0).trans rfl
            have hfs7 := blk_frozen BK169.out 0
            have hs8 : w6.cell? ⟨gb169, 1, none⟩ = some (.bool false) := (blk_cell BK169.out 1).trans rfl
            have hfs8 := blk_frozen BK169.out 1
            have hs9 : w6.cell? ⟨gb169, 2, none⟩ = some (.int .u64 0) := (blk_cell BK169.out 2).trans rfl
            have hfs9 := blk_frozen BK169.out 2
            have hs10 : w6.cell? ⟨gb169, 3, none⟩ = some (.int .u64 0) := (blk_cell BK169.out 3).trans rfl
            have hfs10 := blk_frozen BK169.out 3
            have hs11 : w6.cell? ⟨gb169, 4, none⟩ = some (.int .i64 0) := (blk_cell BK169.out 4).trans rfl
            have hfs11 := blk_frozen BK169.out 4
            have hs12 : w6.cell? ⟨gb169, 5, none⟩ = some (.int .i64 0) := (blk_cell BK169.out 5).trans rfl
            have hfs12 := blk_frozen BK169.out 5
            have hs13 : w6.cell? ⟨gb169, 6, none⟩ = some (.int .i64 0) := (blk_cell BK169.out 6).trans rfl
            have hfs13 := blk_frozen BK169.out 6
            refine skip_ (w1 := ?_) (by rfl) rfl ?_ ?_
            rotate_left
            · go_simp
              rfl
            refine hK.out _ _ ⟨((cell_far (p := ⟨gb169, _, none⟩) (by first | exact Nat.ne_of_lt (Nat.lt_of_lt_of_le (by have := World.block_lt_of_cell? _ _ hw167_0; first | rwa [add_block] at this | exact this) GW169.out) | (rw [add_block]; exact Nat.ne_of_lt (Nat.lt_of_lt_of_le (by have := World.block_lt_of_cell? _ _ hw167_0; first | rwa [add_block] at this | exact this) GW169.out)) | (show (Addr.add _ _).block ≠ _; rw [add_block]; exact Nat.ne_of_lt (Nat.lt_of_lt_of_le (by have := World.block_lt_of_cell? _ _ hw167_0; first | rwa [add_block] at this | exact this) GW169.out)) | (dsimp only; exact Nat.ne_of_lt (Nat.lt_of_lt_of_le (by have := World.block_lt_of_cell? _ _ hw167_0; first | rwa [add_block] at this | exact this) GW169.out))) _).trans (((cell_far (p := ⟨gb169, _, none⟩) (by first | exact Nat.ne_of_lt (Nat.lt_of_lt_of_le (by have := World.block_lt_of_cell? _ _ hw167_0; first | rwa [add_block] at this | exact this) GW169.out) | (rw [add_block]; exact Nat.ne_of_lt (Nat.lt_of_lt_of_le (by have := World.block_lt_of_cell? _ _ hw167_0; first | rwa [add_block] at this | exact this) GW169.out)) | (show (Addr.add _ _).block ≠ _; rw [add_block]; exact Nat.ne_of_lt (Nat.lt_of_lt_of_le (by have := World.block_lt_of_cell? _ _ hw167_0; first | rwa [add_block] at this | exact this) GW169.out)) | (dsimp only; exact Nat.ne_of_lt (Nat.lt_of_lt_of_le (by have := World.block_lt_of_cell? _ _ hw167_0; first | rwa [add_block] at this | exact this) GW169.out))) _).trans (((cell_far (p := ⟨gb169, _, none⟩) (by first | exact Nat.ne_of_lt (Nat.lt_of_lt_of_le (by have := World.block_lt_of_cell? _ _ hw167_0; first | rwa [add_block] at this | exact this) GW169.out) | (rw [add_block]; exact Nat.ne_of_lt (Nat.lt_of_lt_of_le (by have := World.block_lt_of_cell? _ _ hw167_0; first | rwa [add_block] at this | exact this) GW169.out)) | (show (Addr.add _ _).block ≠ _; rw [add_block]; exact Nat.ne_of_lt (Nat.lt_of_lt_of_le (by have := World.block_lt_of_cell? _ _ hw167_0; first | rwa [add_block] at this | exact this) GW169.out)) | (dsimp only; exact Nat.ne_of_lt (Nat.lt_of_lt_of_le (by have := World.block_lt_of_cell? _ _ hw167_0; first | rwa [add_block] at this | exact this) GW169.out))) _).trans (((cell_far (p := ⟨gb169, _, none⟩) (by first | exact Nat.ne_of_lt (Nat.lt_of_lt_of_le (by have := World.block_lt_of_cell? _ _ hw167_0; first | rwa [add_block] at this | exact this) GW169.out) | (rw [add_block]; exact Nat.ne_of_lt (Nat.lt_of_lt_of_le (by have := World.block_lt_of_cell? _ _ hw167_0; first | rwa [add_block] at this | exact this) GW169.out)) | (show (Addr.add _ _).block ≠ _; rw [add_block]; exact Nat.ne_of_lt (Nat.lt_of_lt_of_le (by have := World.block_lt_of_cell? _ _ hw167_0; first | rwa [add_block] at this | exact this) GW169.out)) | (dsimp only; exact Nat.ne_of_lt (Nat.lt_of_lt_of_le (by have := World.block_lt_of_cell? _ _ hw167_0; first | rwa [add_block] at this | exact this) GW169.out))) _).trans (((cell_far (p := ⟨gb169, _, none⟩) (by first | exact Nat.ne_of_lt (Nat.lt_of_lt_of_le (by have := World.block_lt_of_cell? _ _ hw167_0; first | rwa [add_block] at this | exact this) GW169.out) | (rw [add_block]; exact Nat.ne_of_lt (Nat.lt_of_lt_of_le (by have := World.block_lt_of_cell? _ _ hw167_0; first | rwa [add_block] at this | exact this) GW169.out)) | (show (Addr.add _ _).block ≠ _; rw [add_block]; exact Nat.ne_of_lt (Nat.lt_of_lt_of_le (by have := World.block_lt_of_cell? _ _ hw167_0; first | rwa [add_block] at this | exact this) GW169.out)) | (dsimp only; exact Nat.ne_of_lt (Nat.lt_of_lt_of_le (by have := World.block_lt_of_cell? _ _ hw167_0; first | rwa [add_block] at this | exact this) GW169.out))) _).trans (((cell_far (p := ⟨gb169, _, none⟩) (by first | exact Nat.ne_of_lt (Nat.lt_of_lt_of_le (by have := World.block_lt_of_cell? _ _ hw167_0; first | rwa [add_block] at this | exact this) GW169.out) | (rw [add_block]; exact Nat.ne_of_lt (Nat.lt_of_lt_of_le (by have := World.block_lt_of_cell? _ _ hw167_0; first | rwa [add_block] at this | exact this) GW169.out)) | (show (Addr.add _ _).block ≠ _; rw [add_block]; exact Nat.ne_of_lt (Nat.lt_of_lt_of_le (by have := World.block_lt_of_cell? _ _ hw167_0; first | rwa [add_block] at this | exact this) GW169.out)) | (dsimp only; exact Nat.ne_of_lt (Nat.lt_of_lt_of_le (by have := World.block_lt_of_cell? _ _ hw167_0; first | rwa [add_block] at this | exact this) GW169.out))) _).trans (((cell_far (p := ⟨gb169, _, none⟩) (by first | exact Nat.ne_of_lt (Nat.lt_of_lt_of_le (by have := World.block_lt_of_cell? _ _ hw167_0; first | rwa [add_block] at this | exact this) GW169.out) | (rw [add_block]; exact Nat.ne_of_lt (Nat.lt_of_lt_of_le (by have := World.block_lt_of_cell? _ _ hw167_0; first | rwa [add_block] at this | exact this) GW169.out)) | (show (Addr.add _ _).block ≠ _; rw [add_block]; exact Nat.ne_of_lt (Nat.lt_of_lt_of_le (by have := World.block_lt_of_cell? _ _ hw167_0; first | rwa [add_block] at this | exact this) GW169.out)) | (dsimp only; exact Nat.ne_of_lt (Nat.lt_of_lt_of_le (by have := World.block_lt_of_cell? _ _ hw167_0; first | rwa [add_block] at this | exact this) GW169.out))) _).trans (hHeld.1)))))))))))))), ((cell_far (p := ⟨gb169, _, none⟩) (by first | exact Nat.ne_of_lt (Nat.lt_of_lt_of_le (by have := World.block_lt_of_cell? _ _ hw168_0; first | rwa [add_block] at this | exact this) GW169.out) | (rw [add_block]; exact Nat.ne_of_lt (Nat.lt_of_lt_of_le (by have := World.block_lt_of_cell? _ _ hw168_0; first | rwa [add_block] at this | exact this) GW169.out)) | (show (Addr.add _ _).block ≠ _; rw [add_block]; exact Nat.ne_of_lt (Nat.lt_of_lt_of_le (by have := World.block_lt_of_cell? _ _ hw168_0; first | rwa [add_block] at this | exact this) GW169.out)) | (dsimp only; exact Nat.ne_of_lt (Nat.lt_of_lt_of_le (by have := World.block_lt_of_cell? _ _ hw168_0; first | rwa [add_block] at this | exact this) GW169.out))) _).trans (((cell_far (p := ⟨gb169, _, none⟩) (by first | exact Nat.ne_of_lt (Nat.lt_of_lt_of_le (by have := World.block_lt_of_cell? _ _ hw168_0; first | rwa [add_block] at this | exact this) GW169.out) | (rw [add_block]; exact Nat.ne_of_lt (Nat.lt_of_lt_of_le (by have := World.block_lt_of_cell? _ _ hw168_0; first | rwa [add_block] at this | exact this) GW169.out)) | (show (Addr.add _ _).block ≠ _; rw [add_block]; exact Nat.ne_of_lt (Nat.lt_of_lt_of_le (by have := World.block_lt_of_cell? _ _ hw168_0; first | rwa [add_block] at this | exact this) GW169.out)) | (dsimp only; exact Nat.ne_of_lt (Nat.lt_of_lt_of_le (by have := World.block_lt_of_cell? _ _ hw168_0; first | rwa [add_block] at this | exact this) GW169.out))) _).trans (((cell_far (p := ⟨gb169, _, none⟩) (by first | exact Nat.ne_of_lt (Nat.lt_of_lt_of_le (by have := World.block_lt_of_cell? _ _ hw168_0; first | rwa [add_block] at this | exact this) GW169.out) | (rw [add_block]; exact Nat.ne_of_lt (Nat.lt_of_lt_of_le (by have := World.block_lt_of_cell? _ _ hw168_0; first | rwa [add_block] at this | exact this) GW169.out)) | (show (Addr.add _ _).block ≠ _; rw [add_block]; exact Nat.ne_of_lt (Nat.lt_of_lt_of_le (by have := World.block_lt_of_cell? _ _ hw168_0; first | rwa [add_block] at this | exact this) GW169.out)) | (dsimp only; exact Nat.ne_of_lt (Nat.lt_of_lt_of_le (by have := World.block_lt_of_cell? _ _ hw168_0; first | rwa [add_block] at this | exact this) GW169.out))) _).trans (((cell_far (p := ⟨gb169, _, none⟩) (by first | exact Nat.ne_of_lt (Nat.lt_of_lt_of_le (by have := World.block_lt_of_cell? _ _ hw168_0; first | rwa [add_block] at this | exact this) GW169.out) | (rw [add_block]; exact Nat.ne_of_lt (Nat.lt_of_lt_of_le (by have := World.block_lt_of_cell? _ _ hw168_0; first | rwa [add_block] at this | exact this) GW169.out)) | (show (Addr.add _ _).block ≠ _; rw [add_block]; exact Nat.ne_of_lt (Nat.lt_of_lt_of_le (by have := World.block_lt_of_cell? _ _ hw168_0; first | rwa [add_block] at this | exact this) GW169.out)) | (dsimp only; exact Nat.ne_of_lt (Nat.lt_of_lt_of_le (by have := World.block_lt_of_cell? _ _ hw168_0; first | rwa [add_block] at this | exact this) GW169.out))) _).trans (((cell_far (p := ⟨gb169, _, none⟩) (by first | exact Nat.ne_of_lt (Nat.lt_of_lt_of_le (by have := World.block_lt_of_cell? _ _ hw168_0; first | rwa [add_block] at this | exact this) GW169.out) | (rw [add_block]; exact Nat.ne_of_lt (Nat.lt_of_lt_of_le (by have := World.block_lt_of_cell? _ _ hw168_0; first | rwa [add_block] at this | exact this) GW169.out)) | (show (Addr.add _ _).block ≠ _; rw [add_block]; exact Nat.ne_of_lt (Nat.lt_of_lt_of_le (by have := World.block_lt_of_cell? _ _ hw168_0; first | rwa [add_block] at this | exact this) GW169.out)) | (dsimp only; exact Nat.ne_of_lt (Nat.lt_of_lt_of_le (by have := World.block_lt_of_cell? _ _ hw168_0; first | rwa [add_block] at this | exact this) GW169.out))) _).trans (((cell_far (p := ⟨gb169, _, none⟩) (by first | exact Nat.ne_of_lt (Nat.lt_of_lt_of_le (by have := World.block_lt_of_cell? _ _ hw168_0; first | rwa [add_block] at this | exact this) GW169.out) | (rw [add_block]; exact Nat.ne_of_lt (Nat.lt_of_lt_of_le (by have := World.block_lt_of_cell? _ _ hw168_0; first | rwa [add_block] at this | exact this) GW169.out)) | (show (Addr.add _ _).block ≠ _; rw [add_block]; exact Nat.ne_of_lt (Nat.lt_of_lt_of_le (by have := World.block_lt_of_cell? _ _ hw168_0; first | rwa [add_block] at this | exact this) GW169.out)) | (dsimp only; exact Nat.ne_of_lt (Nat.lt_of_lt_of_le (by have := World.block_lt_of_cell? _ _ hw168_0; first | rwa [add_block] at this | exact this) GW169.out))) _).trans (((cell_far (p := ⟨gb169, _, none⟩) (by first | exact Nat.ne_of_lt (Nat.lt_of_lt_of_le (by have := World.block_lt_of_cell? _ _ hw168_0; first | rwa [add_block] at this | exact this) GW169.out) | (rw [add_block]; exact Nat.ne_of_lt (Nat.lt_of_lt_of_le (by have := World.block_lt_of_cell? _ _ hw168_0; first | rwa [add_block] at this | exact this) GW169.out)) | (show (Addr.add _ _).block ≠ _; rw [add_block]; exact Nat.ne_of_lt (Nat.lt_of_lt_of_le (by have := World.block_lt_of_cell? _ _ hw168_0; first | rwa [add_block] at this | exact this) GW169.out)) | (dsimp only; exact Nat.ne_of_lt (Nat.lt_of_lt_of_le (by have := World.block_lt_of_cell? _ _ hw168_0; first | rwa [add_block] at this | exact this) GW169.out))) _).trans (hHeld.2))))))))))))))⟩ (fun hHeld => ?_)
            clear hK K
            refine done_ (done_of HT_.out (by kernel_rfl)) ?_
            have hcz14_0 : w6.cell? ⟨gb169, 0, none⟩ = some (.int .i64 0) := (blk_cell BK169.out 0).trans rfl
            have hcz14_1 : w6.cell? ⟨gb169, 1, none⟩ = some (.bool false) := (blk_cell BK169.out 1).trans rfl
            have hcz14_2 : w6.cell? ⟨gb169, 2, none⟩ = some (.int .u64 0) := (blk_cell BK169.out 2).trans rfl
            have hcz14_3 : w6.cell? ⟨gb169, 3, none⟩ = some (.int .u64 0) := (blk_cell BK169.out 3).trans rfl
            have hcz14_4 : w6.cell? ⟨gb169, 4, none⟩ = some (.int .i64 0) := (blk_cell BK169.out 4).trans rfl
            have hcz14_5 : w6.cell? ⟨gb169, 5, none⟩ = some (.int .i64 0) := (blk_cell BK169.out 5).trans rfl
            have hcz14_6 : w6.cell? ⟨gb169, 6, none⟩ = some (.int .i64 0) := (blk_cell BK169.out 6).trans rfl
            have hfz14_0 := blk_frozen BK169.out 0
            have hfz14_1 := blk_frozen BK169.out 1
            have hfz14_2 := blk_frozen BK169.out 2
            have hfz14_3 := blk_frozen BK169.out 3
            have hfz14_4 := blk_frozen BK169.out 4
            have hfz14_5 := blk_frozen BK169.out 5
            have hfz14_6 := blk_frozen BK169.out 6
            try go_wp2
            go_ret3
            exact ⟨_, by first | rfl | (simp [errW_none, errW_some] <;> rfl) | (simp [*, errW_none, errW_some] <;> rfl), by (with_reducible repeat (first | apply Kd.R_alloc | apply Kd.R_drewN | apply Kd.R_drew)); exact Kd.R_mono (Kd.R_far (p := ⟨gb169, 6, none⟩) (Kd.R_far (p := ⟨gb169, 5, none⟩) (Kd.R_far (p := ⟨gb169, 4, none⟩) (Kd.R_far (p := ⟨gb169, 3, none⟩) (Kd.R_far (p := ⟨gb169, 2, none⟩) (Kd.R_far (p := ⟨gb169, 1, none⟩) (Kd.R_far (p := ⟨gb169, 0, none⟩) (Kd.R_mono HO_5.out (fun k_ hk => (⟨hk, hk.2⟩ : _ ∧ k_ ≠ gb169))) (fun _ hk => hk.2) (.int .i64 (wrap64 (Int.tmod (rd l0 x6_1) 128)))) (fun _ hk => hk.2) (.bool (decide ((rd l0 x6_1) ≥ 128)))) (fun _ hk => hk.2) (.int .u64 0)) (fun _ hk => hk.2) (.int .u64 0)) (fun _ hk => hk.2) (.int .i64 0)) (fun _ hk => hk.2) (.int .i64 0)) (fun _ hk => hk.2) (.int .i64 0)) (fun _ hk => trivial), by repeat (first | (with_reducible first | exact HB.out | apply below_alloc | apply pw_below_drewN | apply below_drew1 | refine below_set ?_ GE169.out) | exact HB.out)⟩
          · rw [if_neg c4] at H
            have c4b0 : decide (8 < (wrap64 (Int.tmod (rd l0 x6_1) 128))) = false := decide_eq_false c4
            clear c4
            replace H := Option.bind_eq_some_iff.mp H
            obtain ⟨t170, A150, H⟩ := H
            replace H : (if (t170.length : Int) > (wrap64 ((l0.length : Int) - x6_1)) then (some (x5_1, x6_1, 12)) else ((silhouetteref12_has.f k1 (wrap64 (Int.tmod (rd l0 x6_1) 128)) 65).bind fun t173 => (if t173 = true then (if 0 ≤ (wrap64 (x6_1 + 1)) then (if (wrap64 (x6_1 + 1)) ≤ (wrap64 ((wrap64 (x6_1 + 1)) + 8)) then (if (wrap64 ((wrap64 (x6_1 + 1)) + 8)) ≤ (l0.length : Int) then ((silhouetteref12_number.f k1 ((l0.take ((wrap64 ((wrap64 (x6_1 + 1)) + 8)) : Int).toNat).drop ((wrap64 (x6_1 + 1)) : Int).toNat)).bind fun t175 => (silhouetteref12_Get.j1 k1 l0 x5_1 x6_1 (t170.length : Int) (wrap64 ((wrap64 (x6_1 + 1)) + 8)) (wrap64 (Int.tmod (rd l0 x6_1) 128)) (decide ((rd l0 x6_1) ≥ 128)) t175 0 0 0 0)) else (none)) else (none)) else (none)) else (silhouetteref12_Get.j1 k1 l0 x5_1 x6_1 (t170.length : Int) (wrap64 (x6_1 + 1)) (wrap64 (Int.tmod (rd l0 x6_1) 128)) (decide ((rd l0 x6_1) ≥ 128)) 0 0 0 0 0)))) = some (r1, r2, r3) := H
            have A15 := Aside0.mk A150
            clear A150
            by_cases c16 : (t170.length : Int) > (wrap64 ((l0.length : Int) - x6_1))
            · rw [if_pos c16] at H
              have c16b0 : decide ((wrap64 ((l0.length : Int) - x6_1)) < (t170.length : Int)) = true := decide_eq_true c16
              clear c16
              simp only [Option.some.injEq, Prod.mk.injEq] at H
              obtain ⟨rfl, rfl, rfl⟩ := H
              try go_wp2
              have n0_ := Aside0.mk (Kd.R_drew HO_5.out)
              have n1_ := Aside0.mk (below_drew1 HB.out)
              clear HO_5
              clear HB
              have HO_5 := n0_
              have HB := n1_
              clear n0_ n1_
              have p167 : 0 ≤ (x6_1 : Int) := of_decide_eq_true (by first | (with_reducible assumption) | assumption)
              have q167 : x6_1 < (l0.length : Int) := of_decide_eq_true (by first | (with_reducible assumption) | assumption)
              obtain ⟨ad167, e167, hx167_0⟩ := Kd.at_int HR0.out x6_1 p167 q167
              have hw167_0 := hx167_0
              cases e167
              replace hx167_0 := (HB.out.cell (World.block_lt_of_cell? w _ hx167_0)).trans hx167_0
              replace p167 := eq_true p167
              replace q167 := eq_true q167
              have p168 : 0 ≤ (x6_1 : Int) := of_decide_eq_true (by first | (with_reducible assumption) | assumption)
              have q168 : x6_1 < (l0.length : Int) := of_decide_eq_true (by first | (with_reducible assumption) | assumption)
              obtain ⟨ad168, e168, hx168_0⟩ := Kd.at_int HR0.out x6_1 p168 q168
              have hw168_0 := hx168_0
              obtain rfl : ad167 = ad168 := (by injection e168)
              replace hx168_0 := (HB.out.cell (World.block_lt_of_cell? w _ hx168_0)).trans hx168_0
              replace p168 := eq_true p168
              replace q168 := eq_true q168
              refine start_ (n := 14) (S := fun w' => w'.cell? (ad167.add (x6_1).toNat) = some (.int .u8 (rd l0 x6_1)) ∧ w'.cell? (ad167.add (x6_1).toNat) = some (.int .u8 (rd l0 x6_1))) (ds := []) #[false, false, false, false, false, false, false, false, false, false, false, false, false, false] (by kernel_rfl) rfl rfl ⟨((HB.out.cell (World.block_lt_of_cell? w _ hw167_0)).trans hw167_0), ((HB.out.cell (World.block_lt_of_cell? w _ hw168_0)).trans hw168_0)⟩ (fun hHeld => ?_); refine with_tabW silhouetteref12_Get.tab4 silhouetteref12_Get.bits4 (fun HT_ HW_ => ?_)
              generalize wr.drew = w17 at HO_5 HB hx167_0 hx168_0 hHeld ⊢
              refine pure_ (i := 0) (N := some 14) (v := ?_) (a' := ?_) #[true, false, false, false, false, false, false, false, false, false, false, false, false, false] rfl rfl (any_of HT_.out (by kernel_rfl)) (fun _ _ _ h => h) (Or.inl ⟨by rfl, ?_⟩) ?_ ?_
              rotate_left
              · intro w'
                go_simp
                with_reducible rfl
              rotate_left
              · simp only [Act.put, List.setIfInBounds_toArray, List.set_cons_zero, List.set_cons_succ, i64_w, i32_w]
                rfl
              refine pure_ (i := 1) (N := some 15) (v := ?_) (a' := ?_) #[true, true, false, false, false, false, false, false, false, false, false, false, false, false] rfl rfl (any_of HT_.out (by kernel_rfl)) (fun _ _ _ h => h) (Or.inl ⟨by rfl, ?_⟩) ?_ ?_
              rotate_left
              · intro w'
                go_simp
                with_reducible rfl
              rotate_left
              · simp only [Act.put, List.setIfInBounds_toArray, List.set_cons_zero, List.set_cons_succ, i64_w, i32_w]
                rfl
              refine pure_ (i := 2) (N := some 16) (v := ?_) (a' := ?_) #[true, true, true, false, false, false, false, false, false, false, false, false, false, false] rfl rfl (any_of HT_.out (by kernel_rfl)) (fun _ _ _ h => h) (Or.inl ⟨by rfl, ?_⟩) ?_ ?_
              rotate_left
              · intro w'
                go_simp
                with_reducible rfl
              rotate_left
              · simp only [Act.put, List.setIfInBounds_toArray, List.set_cons_zero, List.set_cons_succ, i64_w, i32_w]
                rfl
              refine pure_ (i := 6) (N := some 20) (v := ?_) (a' := ?_) #[true, true, true, false, false, false, true, false, false, false, false, false, false, false] rfl rfl (any_of HT_.out (by kernel_rfl)) (fun _ _ _ h => h) (Or.inl ⟨by rfl, ?_⟩) ?_ ?_
              rotate_left
              · intro w'
                go_simp
                with_reducible rfl
              rotate_left
              · simp only [Act.put, List.setIfInBounds_toArray, List.set_cons_zero, List.set_cons_succ, i64_w, i32_w]
                rfl
              refine pure_ (i := 7) (N := some 21) (v := ?_) (a' := ?_) #[true, true, true, false, false, false, true, true, false, false, false, false, false, false] rfl rfl (any_of HT_.out (by kernel_rfl)) (fun _ _ _ h => h) (Or.inl ⟨by rfl, ?_⟩) ?_ ?_
              rotate_left
              · intro w'
                go_simp
                with_reducible rfl
              rotate_left
              · simp only [Act.put, List.setIfInBounds_toArray, List.set_cons_zero, List.set_cons_succ, i64_w, i32_w]
                rfl
              refine pure_ (i := 8) (N := some 22) (v := ?_) (a' := ?_) #[true, true, true, false, false, false, true, true, true, false, false, false, false, false] rfl rfl (any_of HT_.out (by kernel_rfl)) (fun _ _ _ h => h) (Or.inl ⟨by rfl, ?_⟩) ?_ ?_
              rotate_left
              · intro w'
                go_simp
                with_reducible rfl
              rotate_left
              · simp only [Act.put, List.setIfInBounds_toArray, List.set_cons_zero, List.set_cons_succ, i64_w, i32_w]
                rfl
              refine take_ (i := 3) (N := some 17) (v := ?_) (a' := ?_) #[true, true, true, true, false, false, true, true, true, false, false, false, false, false] rfl rfl (take_ofW HT_.out HW_.out (by kernel_rfl)) (fun _ _ _ h => h) (Or.inl ⟨by rfl, ?_⟩) hHeld ?_ ?_
              rotate_left
              · rintro w' ⟨s0, s1⟩
                go_simp
                with_reducible rfl
              rotate_left
              · simp only [Act.put, List.setIfInBounds_toArray, List.set_cons_zero, List.set_cons_succ, i64_w, i32_w]
                rfl
              refine pure_ (i := 4) (N := some 18) (v := ?_) (a' := ?_) #[true, true, true, true, true, false, true, true, true, false, false, false, false, false] rfl rfl (any_of HT_.out (by kernel_rfl)) (fun _ _ _ h => h) (Or.inl ⟨by rfl, ?_⟩) ?_ ?_
              rotate_left
              · intro w'
                go_simp
                with_reducible rfl
              rotate_left
              · simp only [Act.put, List.setIfInBounds_toArray, List.set_cons_zero, List.set_cons_succ, i64_w, i32_w]
                rfl
              refine pure_ (i := 5) (N := some 19) (v := ?_) (a' := ?_) #[true, true, true, true, true, true, true, true, true, false, false, false, false, false] rfl rfl (any_of HT_.out (by kernel_rfl)) (fun _ _ _ h => h) (Or.inl ⟨by rfl, ?_⟩) ?_ ?_
              rotate_left
              · intro w'
                go_simp
                with_reducible rfl
              rotate_left
              · simp only [Act.put, List.setIfInBounds_toArray, List.set_cons_zero, List.set_cons_succ, i64_w, i32_w]
                rfl
              refine take_ (i := 9) (N := some 23) (v := ?_) (a' := ?_) #[true, true, true, true, true, true, true, true, true, true, false, false, false, false] rfl rfl (take_ofW HT_.out HW_.out (by kernel_rfl)) (fun _ _ _ h => h) (Or.inl ⟨by rfl, ?_⟩) hHeld ?_ ?_
              rotate_left
              · rintro w' ⟨s0, s1⟩
                go_simp
                with_reducible rfl
              rotate_left
              · simp only [Act.put, List.setIfInBounds_toArray, List.set_cons_zero, List.set_cons_succ, i64_w, i32_w]
                rfl
              refine pure_ (i := 10) (N := some 24) (v := ?_) (a' := ?_) #[true, true, true, true, true, true, true, true, true, true, true, false, false, false] rfl rfl (any_of HT_.out (by kernel_rfl)) (fun _ _ _ h => h) (Or.inl ⟨by rfl, ?_⟩) ?_ ?_
              rotate_left
              · intro w'
                go_simp
                with_reducible rfl
              rotate_left
              · simp only [Act.put, List.setIfInBounds_toArray, List.set_cons_zero, List.set_cons_succ, i64_w, i32_w]
                rfl
              refine pure_ (i := 11) (N := some 25) (v := ?_) (a' := ?_) #[true, true, true, true, true, true, true, true, true, true, true, true, false, false] rfl rfl (any_of HT_.out (by kernel_rfl)) (fun _ _ _ h => h) (Or.inl ⟨by rfl, ?_⟩) ?_ ?_
              rotate_left
              · intro w'
                go_simp
                with_reducible rfl
              rotate_left
              · simp only [Act.put, List.setIfInBounds_toArray, List.set_cons_zero, List.set_cons_succ, i64_w, i32_w]
                rfl
              refine one_ (i := 12) (N := some 7) #[true, true, true, true, true, true, true, true, true, true, true, true, true, false] rfl rfl (one_of HT_.out (by kernel_rfl)) (by decide) (fun K hK => ?_)
              refine box_step ?hg (N := 7) ?hd (cs := #[.int .i64 0, .bool false, .int .u64 0, .int .u64 0, .int .i64 0, .int .i64 0, .int .i64 0]) (t := 31) ?hr ?_; (case hd => rfl); (case hg => rfl); (case hr => first | (go_simp; done) | (go_simp; rfl))
              intro gb169 hg w18 hbox hb
              have n0_ := Aside0.mk (Kd.R_below (Kd.R_elderB (by (with_reducible repeat (first | apply Kd.R_alloc | apply Kd.R_drewN | apply Kd.R_drew)); exact HO_5.out) gb169 (Nat.le_of_eq hg.symm)) hb)
              have n1_ := Aside0.mk (below_step (by repeat (first | (with_reducible first | exact HB.out | apply below_alloc | apply pw_below_drewN | apply below_drew1) | exact HB.out)) hb)
              have n2_ := Aside0.mk (hbox)
              have n3_ := Aside0.mk ((by rw [hg]; exact (below_size (by repeat (first | (with_reducible first | exact HB.out | apply below_alloc | apply pw_below_drewN | apply below_drew1) | exact HB.out))) : w.heap.size ≤ gb169))
              have n4_ := Aside0.mk ((by rw [hg]; exact (below_size (by repeat (first | (with_reducible first | exact HB.out | apply below_alloc | apply pw_below_drewN | apply below_drew1) | exact HB.out))) : w.heap.size ≤ gb169))
              clear HO_5
              clear HB
              have HO_5 := n0_
              have HB := n1_
              have BK169 := n2_
              have GW169 := n3_
              have GE169 := n4_
              clear n0_ n1_ n2_ n3_ n4_
              clear hb hbox hg
              refine hK.out _ _ ⟨((HB.out.cell (World.block_lt_of_cell? w _ hw167_0)).trans hw167_0), ((HB.out.cell (World.block_lt_of_cell? w _ hw168_0)).trans hw168_0)⟩ (fun hHeld => ?_)
              clear hK K
              refine norm_ (a' := ?_) ?_ ?_
              rotate_left
              · show Act.put _ (some 7) _ = _
                simp only [Act.put, List.setIfInBounds_toArray, List.set_cons_zero, List.set_cons_succ, i64_w, i32_w]
                rfl
              refine one_ (i := 13) (N := none) #[true, true, true, true, true, true, true, true, true, true, true, true, true, true] rfl rfl (one_of HT_.out (by kernel_rfl)) (by decide) (fun K hK => ?_)
              have hs19 : w18.cell? ⟨gb169, 0, none⟩ = some (.int .i64 0) := (blk_cell BK169.out 0).trans rfl
              have hfs19 := blk_frozen BK169.out 0
              have hs20 : w18.cell? ⟨gb169, 1, none⟩ = some (.bool false) := (blk_cell BK169.out 1).trans rfl
              have hfs20 := blk_frozen BK169.out 1
              have hs21 : w18.cell? ⟨gb169, 2, none⟩ = some (.int .u64 0) := (blk_cell BK169.out 2).trans rfl
              have hfs21 := blk_frozen BK169.out 2
              have hs22 : w18.cell? ⟨gb169, 3, none⟩ = some (.int .u64 0) := (blk_cell BK169.out 3).trans rfl
              have hfs22 := blk_frozen BK169.out 3
              have hs23 : w18.cell? ⟨gb169, 4, none⟩ = some (.int .i64 0) := (blk_cell BK169.out 4).trans rfl
              have hfs23 := blk_frozen BK169.out 4
              have hs24 : w18.cell? ⟨gb169, 5, none⟩ = some (.int .i64 0) := (blk_cell BK169.out 5).trans rfl
              have hfs24 := blk_frozen BK169.out 5
              have hs25 : w18.cell? ⟨gb169, 6, none⟩ = some (.int .i64 0) := (blk_cell BK169.out 6).trans rfl
              have hfs25 := blk_frozen BK169.out 6
              refine skip_ (w1 := ?_) (by rfl) rfl ?_ ?_
              rotate_left
              · go_simp
                rfl
              refine hK.out _ _ ⟨((cell_far (p := ⟨gb169, _, none⟩) (by first | exact Nat.ne_of_lt (Nat.lt_of_lt_of_le (by have := World.block_lt_of_cell? _ _ hw167_0; first | rwa [add_block] at this | exact this) GW169.out) | (rw [add_block]; exact Nat.ne_of_lt (Nat.lt_of_lt_of_le (by have := World.block_lt_of_cell? _ _ hw167_0; first | rwa [add_block] at this | exact this) GW169.out)) | (show (Addr.add _ _).block ≠ _; rw [add_block]; exact Nat.ne_of_lt (Nat.lt_of_lt_of_le (by have := World.block_lt_of_cell? _ _ hw167_0; first | rwa [add_block] at this | exact this) GW169.out)) | (dsimp only; exact Nat.ne_of_lt (Nat.lt_of_lt_of_le (by have := World.block_lt_of_cell? _ _ hw167_0; first | rwa [add_block] at this | exact this) GW169.out))) _).trans (((cell_far (p := ⟨gb169, _, none⟩) (by first | exact Nat.ne_of_lt (Nat.lt_of_lt_of_le (by have := World.block_lt_of_cell? _ _ hw167_0; first | rwa [add_block] at this | exact this) GW169.out) | (rw [add_block]; exact Nat.ne_of_lt (Nat.lt_of_lt_of_le (by have := World.block_lt_of_cell? _ _ hw167_0; first | rwa [add_block] at this | exact this) GW169.out)) | (show (Addr.add _ _).block ≠ _; rw [add_block]; exact Nat.ne_of_lt (Nat.lt_of_lt_of_le (by have := World.block_lt_of_cell? _ _ hw167_0; first | rwa [add_block] at this | exact this) GW169.out)) | (dsimp only; exact Nat.ne_of_lt (Nat.lt_of_lt_of_le (by have := World.block_lt_of_cell? _ _ hw167_0; first | rwa [add_block] at this | exact this) GW169.out))) _).trans (((cell_far (p := ⟨gb169, _, none⟩) (by first | exact Nat.ne_of_lt (Nat.lt_of_lt_of_le (by have := World.block_lt_of_cell? _ _ hw167_0; first | rwa [add_block] at this | exact this) GW169.out) | (rw [add_block]; exact Nat.ne_of_lt (Nat.lt_of_lt_of_le (by have := World.block_lt_of_cell? _ _ hw167_0; first | rwa [add_block] at this | exact this) GW169.out)) | (show (Addr.add _ _).block ≠ _; rw [add_block]; exact Nat.ne_of_lt (Nat.lt_of_lt_of_le (by have := World.block_lt_of_cell? _ _ hw167_0; first | rwa [add_block] at this | exact this) GW169.out)) | (dsimp only; exact Nat.ne_of_lt (Nat.lt_of_lt_of_le (by have := World.block_lt_of_cell? _ _ hw167_0; first | rwa [add_block] at this | exact this) GW169.out))) _).trans (((cell_far (p := ⟨gb169, _, none⟩) (by first | exact Nat.ne_of_lt (Nat.lt_of_lt_of_le (by have := World.block_lt_of_cell? _ _ hw167_0; first | rwa [add_block] at this | exact this) GW169.out) | (rw [add_block]; exact Nat.ne_of_lt (Nat.lt_of_lt_of_le (by have := World.block_lt_of_cell? _ _ hw167_0; first | rwa [add_block] at this | exact this) GW169.out)) | (show (Addr.add _ _).block ≠ _; rw [add_block]; exact Nat.ne_of_lt (Nat.lt_of_lt_of_le (by have := World.block_lt_of_cell? _ _ hw167_0; first | rwa [add_block] at this | exact this) GW169.out)) | (dsimp only; exact Nat.ne_of_lt (Nat.lt_of_lt_of_le (by have := World.block_lt_of_cell? _ _ hw167_0; first | rwa [add_block] at this | exact this) GW169.out))) _).trans (((cell_far (p := ⟨gb169, _, none⟩) (by first | exact Nat.ne_of_lt (Nat.lt_of_lt_of_le (by have := World.block_lt_of_cell? _ _ hw167_0; first | rwa [add_block] at this | exact this) GW169.out) | (rw [add_block]; exact Nat.ne_of_lt (Nat.lt_of_lt_of_le (by have := World.block_lt_of_cell? _ _ hw167_0; first | rwa [add_block] at this | exact this) GW169.out)) | (show (Addr.add _ _).block ≠ _; rw [add_block]; exact Nat.ne_of_lt (Nat.lt_of_lt_of_le (by have := World.block_lt_of_cell? _ _ hw167_0; first | rwa [add_block] at this | exact this) GW169.out)) | (dsimp only; exact Nat.ne_of_lt (Nat.lt_of_lt_of_le (by have := World.block_lt_of_cell? _ _ hw167_0; first | rwa [add_block] at this | exact this) GW169.out))) _).trans (((cell_far (p := ⟨gb169, _, none⟩) (by first | exact Nat.ne_of_lt (Nat.lt_of_lt_of_le (by have := World.block_lt_of_cell? _ _ hw167_0; first | rwa [add_block] at this | exact this) GW169.out) | (rw [add_block]; exact Nat.ne_of_lt (Nat.lt_of_lt_of_le (by have := World.block_lt_of_cell? _ _ hw167_0; first | rwa [add_block] at this | exact this) GW169.out)) | (show (Addr.add _ _).block ≠ _; rw [add_block]; exact Nat.ne_of_lt (Nat.lt_of_lt_of_le (by have := World.block_lt_of_cell? _ _ hw167_0; first | rwa [add_block] at this | exact this) GW169.out)) | (dsimp only; exact Nat.ne_of_lt (Nat.lt_of_lt_of_le (by have := World.block_lt_of_cell? _ _ hw167_0; first | rwa [add_block] at this | exact this) GW169.out))) _).trans (((cell_far (p := ⟨gb169, _, none⟩) (by first | exact Nat.ne_of_lt (Nat.lt_of_lt_of_le (by have := World.block_lt_of_cell? _ _ hw167_0; first | rwa [add_block] at this | exact this) GW169.out) | (rw [add_block]; exact Nat.ne_of_lt (Nat.lt_of_lt_of_le (by have := World.block_lt_of_cell? _ _ hw167_0; first | rwa [add_block] at this | exact this) GW169.out)) | (show (Addr.add _ _).block ≠ _; rw [add_block]; exact Nat.ne_of_lt (Nat.lt_of_lt_of_le (by have := World.block_lt_of_cell? _ _ hw167_0; first | rwa [add_block] at this | exact this) GW169.out)) | (dsimp only; exact Nat.ne_of_lt (Nat.lt_of_lt_of_le (by have := World.block_lt_of_cell? _ _ hw167_0; first | rwa [add_block] at this | exact this) GW169.out))) _).trans (hHeld.1)))))))))))))), ((cell_far (p := ⟨gb169, _, none⟩) (by first | exact Nat.ne_of_lt (Nat.lt_of_lt_of_le (by have := World.block_lt_of_cell? _ _ hw168_0; first | rwa [add_block] at this | exact this) GW169.out) | (rw [add_block]; exact Nat.ne_of_lt (Nat.lt_of_lt_of_le (by have := World.block_lt_of_cell? _ _ hw168_0; first | rwa [add_block] at this | exact this) GW169.out)) | (show (Addr.add _ _).block ≠ _; rw [add_block]; exact Nat.ne_of_lt (Nat.lt_of_lt_of_le (by have := World.block_lt_of_cell? _ _ hw168_0; first | rwa [add_block] at this | exact this) GW169.out)) | (dsimp only; exact Nat.ne_of_lt (Nat.lt_of_lt_of_le (by have := World.block_lt_of_cell? _ _ hw168_0; first | rwa [add_block] at this | exact this) GW169.out))) _).trans (((cell_far (p := ⟨gb169, _, none⟩) (by first | exact Nat.ne_of_lt (Nat.lt_of_lt_of_le (by have := World.block_lt_of_cell? _ _ hw168_0; first | rwa [add_block] at this | exact this) GW169.out) | (rw [add_block]; exact Nat.ne_of_lt (Nat.lt_of_lt_of_le (by have := World.block_lt_of_cell? _ _ hw168_0; first | rwa [add_block] at this | exact this) GW169.out)) | (show (Addr.add _ _).block ≠ _; rw [add_block]; exact Nat.ne_of_lt (Nat.lt_of_lt_of_le (by have := World.block_lt_of_cell? _ _ hw168_0; first | rwa [add_block] at this | exact this) GW169.out)) | (dsimp only; exact Nat.ne_of_lt (Nat.lt_of_lt_of_le (by have := World.block_lt_of_cell? _ _ hw168_0; first | rwa [add_block] at this | exact this) GW169.out))) _).trans (((cell_far (p := ⟨gb169, _, none⟩) (by first | exact Nat.ne_of_lt (Nat.lt_of_lt_of_le (by have := World.block_lt_of_cell? _ _ hw168_0; first | rwa [add_block] at this | exact this) GW169.out) | (rw [add_block]; exact Nat.ne_of_lt (Nat.lt_of_lt_of_le (by have := World.block_lt_of_cell? _ _ hw168_0; first | rwa [add_block] at this | exact this) GW169.out)) | (show (Addr.add _ _).block ≠ _; rw [add_block]; exact Nat.ne_of_lt (Nat.lt_of_lt_of_le (by have := World.block_lt_of_cell? _ _ hw168_0; first | rwa [add_block] at this | exact this) GW169.out)) | (dsimp only; exact Nat.ne_of_lt (Nat.lt_of_lt_of_le (by have := World.block_lt_of_cell? _ _ hw168_0; first | rwa [add_block] at this | exact this) GW169.out))) _).trans (((cell_far (p := ⟨gb169, _, none⟩) (by first | exact Nat.ne_of_lt (Nat.lt_of_lt_of_le (by have := World.block_lt_of_cell? _ _ hw168_0; first | rwa [add_block] at this | exact this) GW169.out) | (rw [add_block]; exact Nat.ne_of_lt (Nat.lt_of_lt_of_le (by have := World.block_lt_of_cell? _ _ hw168_0; first | rwa [add_block] at this | exact this) GW169.out)) | (show (Addr.add _ _).block ≠ _; rw [add_block]; exact Nat.ne_of_lt (Nat.lt_of_lt_of_le (by have := World.block_lt_of_cell? _ _ hw168_0; first | rwa [add_block] at this | exact this) GW169.out)) | (dsimp only; exact Nat.ne_of_lt (Nat.lt_of_lt_of_le (by have := World.block_lt_of_cell? _ _ hw168_0; first | rwa [add_block] at this | exact this) GW169.out))) _).trans (((cell_far (p := ⟨gb169, _, none⟩) (by first | exact Nat.ne_of_lt (Nat.lt_of_lt_of_le (by have := World.block_lt_of_cell? _ _ hw168_0; first | rwa [add_block] at this | exact this) GW169.out) | (rw [add_block]; exact Nat.ne_of_lt (Nat.lt_of_lt_of_le (by have := World.block_lt_of_cell? _ _ hw168_0; first | rwa [add_block] at this | exact this) GW169.out)) | (show (Addr.add _ _).block ≠ _; rw [add_block]; exact Nat.ne_of_lt (Nat.lt_of_lt_of_le (by have := World.block_lt_of_cell? _ _ hw168_0; first | rwa [add_block] at this | exact this) GW169.out)) | (dsimp only; exact Nat.ne_of_lt (Nat.lt_of_lt_of_le (by have := World.block_lt_of_cell? _ _ hw168_0; first | rwa [add_block] at this | exact this) GW169.out))) _).trans (((cell_far (p := ⟨gb169, _, none⟩) (by first | exact Nat.ne_of_lt (Nat.lt_of_lt_of_le (by have := World.block_lt_of_cell? _ _ hw168_0; first | rwa [add_block] at this | exact this) GW169.out) | (rw [add_block]; exact Nat.ne_of_lt (Nat.lt_of_lt_of_le (by have := World.block_lt_of_cell? _ _ hw168_0; first | rwa [add_block] at this | exact this) GW169.out)) | (show (Addr.add _ _).block ≠ _; rw [add_block]; exact Nat.ne_of_lt (Nat.lt_of_lt_of_le (by have := World.block_lt_of_cell? _ _ hw168_0; first | rwa [add_block] at this | exact this) GW169.out)) | (dsimp only; exact Nat.ne_of_lt (Nat.lt_of_lt_of_le (by have := World.block_lt_of_cell? _ _ hw168_0; first | rwa [add_block] at this | exact this) GW169.out))) _).trans (((cell_far (p := ⟨gb169, _, none⟩) (by first | exact Nat.ne_of_lt (Nat.lt_of_lt_of_le (by have := World.block_lt_of_cell? _ _ hw168_0; first | rwa [add_block] at this | exact this) GW169.out) | (rw [add_block]; exact Nat.ne_of_lt (Nat.lt_of_lt_of_le (by have := World.block_lt_of_cell? _ _ hw168_0; first | rwa [add_block] at this | exact this) GW169.out)) | (show (Addr.add _ _).block ≠ _; rw [add_block]; exact Nat.ne_of_lt (Nat.lt_of_lt_of_le (by have := World.block_lt_of_cell? _ _ hw168_0; first | rwa [add_block] at this | exact this) GW169.out)) | (dsimp only; exact Nat.ne_of_lt (Nat.lt_of_lt_of_le (by have := World.block_lt_of_cell? _ _ hw168_0; first | rwa [add_block] at this | exact this) GW169.out))) _).trans (hHeld.2))))))))))))))⟩ (fun hHeld => ?_)
              clear hK K
              refine done_ (done_of HT_.out (by kernel_rfl)) ?_
              have hcz26_0 : w18.cell? ⟨gb169, 0, none⟩ = some (.int .i64 0) := (blk_cell BK169.out 0).trans rfl
              have hcz26_1 : w18.cell? ⟨gb169, 1, none⟩ = some (.bool false) := (blk_cell BK169.out 1).trans rfl
              have hcz26_2 : w18.cell? ⟨gb169, 2, none⟩ = some (.int .u64 0) := (blk_cell BK169.out 2).trans rfl
              have hcz26_3 : w18.cell? ⟨gb169, 3, none⟩ = some (.int .u64 0) := (blk_cell BK169.out 3).trans rfl
              have hcz26_4 : w18.cell? ⟨gb169, 4, none⟩ = some (.int .i64 0) := (blk_cell BK169.out 4).trans rfl
              have hcz26_5 : w18.cell? ⟨gb169, 5, none⟩ = some (.int .i64 0) := (blk_cell BK169.out 5).trans rfl
              have hcz26_6 : w18.cell? ⟨gb169, 6, none⟩ = some (.int .i64 0) := (blk_cell BK169.out 6).trans rfl
              have hfz26_0 := blk_frozen BK169.out 0
              have hfz26_1 := blk_frozen BK169.out 1
              have hfz26_2 := blk_frozen BK169.out 2
              have hfz26_3 := blk_frozen BK169.out 3
              have hfz26_4 := blk_frozen BK169.out 4
              have hfz26_5 := blk_frozen BK169.out 5
              have hfz26_6 := blk_frozen BK169.out 6
              try go_wp2_with (first | ((with_reducible refine gate_callee (f := 19) rfl ?_); refine goesL_ (some 32) rfl rfl Try.func19 (by kernel_rfl) rfl #[.agg #[.int .i64 (wrap64 (Int.tmod (rd l0 x6_1) 128)), .bool (decide ((rd l0 x6_1) ≥ 128)), .int .u64 0, .int .u64 0, .int .i64 0, .int .i64 0, .int .i64 0]] rfl (by (try simp only [List.map_toArray, List.map_cons, List.map_nil]); first | done | rfl | (simp only [List.length_drop, List.length_take]; rfl)) ?_; (with_reducible refine (silhouetteref12_one.calls k1 (wrap64 (Int.tmod (rd l0 x6_1) 128)) (decide ((rd l0 x6_1) ≥ 128)) 0 0 0 0 0 t170 _ A15.out).mono ?_); rintro e w27 ⟨v171, rfl, ho0, hb⟩; refine ⟨_, rfl, ?_⟩; have n0_ := Aside0.mk (Kd.R_below (by (with_reducible repeat (first | apply Kd.R_alloc | apply Kd.R_drewN | apply Kd.R_drew)); exact (Kd.R_mono (Kd.R_far (p := ⟨gb169, 6, none⟩) (Kd.R_far (p := ⟨gb169, 5, none⟩) (Kd.R_far (p := ⟨gb169, 4, none⟩) (Kd.R_far (p := ⟨gb169, 3, none⟩) (Kd.R_far (p := ⟨gb169, 2, none⟩) (Kd.R_far (p := ⟨gb169, 1, none⟩) (Kd.R_far (p := ⟨gb169, 0, none⟩) (Kd.R_mono HO_5.out (fun k_ hk => (⟨hk, hk.2⟩ : _ ∧ k_ ≠ gb169))) (fun _ hk => hk.2) (.int .i64 (wrap64 (Int.tmod (rd l0 x6_1) 128)))) (fun _ hk => hk.2) (.bool (decide ((rd l0 x6_1) ≥ 128)))) (fun _ hk => hk.2) (.int .u64 0)) (fun _ hk => hk.2) (.int .u64 0)) (fun _ hk => hk.2) (.int .i64 0)) (fun _ hk => hk.2) (.int .i64 0)) (fun _ hk => hk.2) (.int .i64 0)) (fun _ h_ => h_.1))) hb); have n1_ := Aside0.mk (Kd.R_lower ho0 (below_size (by repeat (first | (with_reducible first | exact HB.out | apply below_alloc | apply pw_below_drewN | apply below_drew1 | refine below_set ?_ GE169.out) | exact HB.out)))); have n2_ := Aside0.mk (blk_below (g := gb169) (o := .cells #[.int .i64 (wrap64 (Int.tmod (rd l0 x6_1) 128)), .bool (decide ((rd l0 x6_1) ≥ 128)), .int .u64 0, .int .u64 0, .int .i64 0, .int .i64 0, .int .i64 0] 31 (0, 0)) (by (with_reducible repeat (first | refine blk_drewN ?_ _ | refine blk_drew ?_ | refine blk_alloc ?_ _)); refine blk_put (cs := #[.int .i64 (wrap64 (Int.tmod (rd l0 x6_1) 128)), .bool (decide ((rd l0 x6_1) ≥ 128)), .int .u64 0, .int .u64 0, .int .i64 0, .int .i64 0, .int .i64 0]) ?_ 6 _ rfl; (with_reducible repeat (first | refine blk_drewN ?_ _ | refine blk_drew ?_ | refine blk_alloc ?_ _)); refine blk_put (cs := #[.int .i64 (wrap64 (Int.tmod (rd l0 x6_1) 128)), .bool (decide ((rd l0 x6_1) ≥ 128)), .int .u64 0, .int .u64 0, .int .i64 0, .int .i64 0, .int .i64 0]) ?_ 5 _ rfl; (with_reducible repeat (first | refine blk_drewN ?_ _ | refine blk_drew ?_ | refine blk_alloc ?_ _)); refine blk_put (cs := #[.int .i64 (wrap64 (Int.tmod (rd l0 x6_1) 128)), .bool (decide ((rd l0 x6_1) ≥ 128)), .int .u64 0, .int .u64 0, .int .i64 0, .int .i64 0, .int .i64 0]) ?_ 4 _ rfl; (with_reducible repeat (first | refine blk_drewN ?_ _ | refine blk_drew ?_ | refine blk_alloc ?_ _)); refine blk_put (cs := #[.int .i64 (wrap64 (Int.tmod (rd l0 x6_1) 128)), .bool (decide ((rd l0 x6_1) ≥ 128)), .int .u64 0, .int .u64 0, .int .i64 0, .int .i64 0, .int .i64 0]) ?_ 3 _ rfl; (with_reducible repeat (first | refine blk_drewN ?_ _ | refine blk_drew ?_ | refine blk_alloc ?_ _)); refine blk_put (cs := #[.int .i64 (wrap64 (Int.tmod (rd l0 x6_1) 128)), .bool (decide ((rd l0 x6_1) ≥ 128)), .int .u64 0, .int .u64 0, .int .i64 0, .int .i64 0, .int .i64 0]) ?_ 2 _ rfl; (with_reducible repeat (first | refine blk_drewN ?_ _ | refine blk_drew ?_ | refine blk_alloc ?_ _)); refine blk_put (cs := #[.int .i64 (wrap64 (Int.tmod (rd l0 x6_1) 128)), .bool false, .int .u64 0, .int .u64 0, .int .i64 0, .int .i64 0, .int .i64 0]) ?_ 1 _ rfl; (with_reducible repeat (first | refine blk_drewN ?_ _ | refine blk_drew ?_ | refine blk_alloc ?_ _)); refine blk_put (cs := #[.int .i64 0, .bool false, .int .u64 0, .int .u64 0, .int .i64 0, .int .i64 0, .int .i64 0]) ?_ 0 _ rfl; (with_reducible repeat (first | refine blk_drewN ?_ _ | refine blk_drew ?_ | refine blk_alloc ?_ _)); exact BK169.out) hb); have n3_ := Aside0.mk (below_step (by repeat (first | (with_reducible first | exact HB.out | apply below_alloc | apply pw_below_drewN | apply below_drew1 | refine below_set ?_ GE169.out) | exact HB.out)) hb); clear HO_5; clear BK169; clear HB; have HO_5 := n0_; have HO172 := n1_; have BK169 := n2_; have HB := n3_; clear n0_ n1_ n2_ n3_; (try clear hb); (try clear hb2); (try clear hk); (try clear hi); (try clear ho0); obtain ⟨Ao28, co28, eo28⟩ := Kd.R_slice HO172.out; subst eo28))
              go_ret3
              exact ⟨_, by first | rfl | (simp [errW_none, errW_some] <;> rfl) | (simp [*, errW_none, errW_some] <;> rfl), by (with_reducible repeat (first | apply Kd.R_alloc | apply Kd.R_drewN | apply Kd.R_drew)); exact Kd.R_mono HO_5.out (fun _ hk => trivial), by repeat (first | (with_reducible first | exact HB.out | apply below_alloc | apply pw_below_drewN | apply below_drew1 | refine below_set ?_ GE169.out) | exact HB.out)⟩
            · rw [if_neg c16] at H
              have c16b0 : decide ((wrap64 ((l0.length : Int) - x6_1)) < (t170.length : Int)) = false := decide_eq_false c16
              clear c16
              replace H := Option.bind_eq_some_iff.mp H
              obtain ⟨t173, A290, H⟩ := H
              replace H : (if t173 = true then (if 0 ≤ (wrap64 (x6_1 + 1)) then (if (wrap64 (x6_1 + 1)) ≤ (wrap64 ((wrap64 (x6_1 + 1)) + 8)) then (if (wrap64 ((wrap64 (x6_1 + 1)) + 8)) ≤ (l0.length : Int) then ((silhouetteref12_number.f k1 ((l0.take ((wrap64 ((wrap64 (x6_1 + 1)) + 8)) : Int).toNat).drop ((wrap64 (x6_1 + 1)) : Int).toNat)).bind fun t175 => (silhouetteref12_Get.j1 k1 l0 x5_1 x6_1 (t170.length : Int) (wrap64 ((wrap64 (x6_1 + 1)) + 8)) (wrap64 (Int.tmod (rd l0 x6_1) 128)) (decide ((rd l0 x6_1) ≥ 128)) t175 0 0 0 0)) else (none)) else (none)) else (none)) else (silhouetteref12_Get.j1 k1 l0 x5_1 x6_1 (t170.length : Int) (wrap64 (x6_1 + 1)) (wrap64 (Int.tmod (rd l0 x6_1) 128)) (decide ((rd l0 x6_1) ≥ 128)) 0 0 0 0 0)) = some (r1, r2, r3) := H
              have A29 := Aside0.mk A290
              clear A290
              have HC30 := Aside0.mk H
              clear H
              try go_wp2
              have n0_ := Aside0.mk (Kd.R_drew HO_5.out)
              have n1_ := Aside0.mk (below_drew1 HB.out)
              clear HO_5
              clear HB
              have HO_5 := n0_
              have HB := n1_
              clear n0_ n1_
              have p167 : 0 ≤ (x6_1 : Int) := of_decide_eq_true (by first | (with_reducible assumption) | assumption)
              have q167 : x6_1 < (l0.length : Int) := of_decide_eq_true (by first | (with_reducible assumption) | assumption)
              obtain ⟨ad167, e167, hx167_0⟩ := Kd.at_int HR0.out x6_1 p167 q167
              have hw167_0 := hx167_0
              cases e167
              replace hx167_0 := (HB.out.cell (World.block_lt_of_cell? w _ hx167_0)).trans hx167_0
              replace p167 := eq_true p167
              replace q167 := eq_true q167
              have p168 : 0 ≤ (x6_1 : Int) := of_decide_eq_true (by first | (with_reducible assumption) | assumption)
              have q168 : x6_1 < (l0.length : Int) := of_decide_eq_true (by first | (with_reducible assumption) | assumption)
              obtain ⟨ad168, e168, hx168_0⟩ := Kd.at_int HR0.out x6_1 p168 q168
              have hw168_0 := hx168_0
              obtain rfl : ad167 = ad168 := (by injection e168)
              replace hx168_0 := (HB.out.cell (World.block_lt_of_cell? w _ hx168_0)).trans hx168_0
              replace p168 := eq_true p168
              replace q168 := eq_true q168
              refine start_ (n := 14) (S := fun w' => w'.cell? (ad167.add (x6_1).toNat) = some (.int .u8 (rd l0 x6_1)) ∧ w'.cell? (ad167.add (x6_1).toNat) = some (.int .u8 (rd l0 x6_1))) (ds := []) #[false, false, false, false, false, false, false, false, false, false, false, false, false, false] (by kernel_rfl) rfl rfl ⟨((HB.out.cell (World.block_lt_of_cell? w _ hw167_0)).trans hw167_0), ((HB.out.cell (World.block_lt_of_cell? w _ hw168_0)).trans hw168_0)⟩ (fun hHeld => ?_); refine with_tabW silhouetteref12_Get.tab4 silhouetteref12_Get.bits4 (fun HT_ HW_ => ?_)
              generalize wr.drew = w31 at HO_5 HB hx167_0 hx168_0 hHeld ⊢
              refine pure_ (i := 0) (N := some 14) (v := ?_) (a' := ?_) #[true, false, false, false, false, false, false, false, false, false, false, false, false, false] rfl rfl (any_of HT_.out (by kernel_rfl)) (fun _ _ _ h => h) (Or.inl ⟨by rfl, ?_⟩) ?_ ?_
              rotate_left
              · intro w'
                go_simp
                with_reducible rfl
              rotate_left
              · simp only [Act.put, List.setIfInBounds_toArray, List.set_cons_zero, List.set_cons_succ, i64_w, i32_w]
                rfl
              refine pure_ (i := 1) (N := some 15) (v := ?_) (a' := ?_) #[true, true, false, false, false, false, false, false, false, false, false, false, false, false] rfl rfl (any_of HT_.out (by kernel_rfl)) (fun _ _ _ h => h) (Or.inl ⟨by rfl, ?_⟩) ?_ ?_
              rotate_left
              · intro w'
                go_simp
                with_reducible rfl
              rotate_left
              · simp only [Act.put, List.setIfInBounds_toArray, List.set_cons_zero, List.set_cons_succ, i64_w, i32_w]
                rfl
              refine pure_ (i := 2) (N := some 16) (v := ?_) (a' := ?_) #[true, true, true, false, false, false, false, false, false, false, false, false, false, false] rfl rfl (any_of HT_.out (by kernel_rfl)) (fun _ _ _ h => h) (Or.inl ⟨by rfl, ?_⟩) ?_ ?_
              rotate_left
              · intro w'
                go_simp
                with_reducible rfl
              rotate_left
              · simp only [Act.put, List.setIfInBounds_toArray, List.set_cons_zero, List.set_cons_succ, i64_w, i32_w]
                rfl
              refine pure_ (i := 6) (N := some 20) (v := ?_) (a' := ?_) #[true, true, true, false, false, false, true, false, false, false, false, false, false, false] rfl rfl (any_of HT_.out (by kernel_rfl)) (fun _ _ _ h => h) (Or.inl ⟨by rfl, ?_⟩) ?_ ?_
              rotate_left
              · intro w'
                go_simp
                with_reducible rfl
              rotate_left
              · simp only [Act.put, List.setIfInBounds_toArray, List.set_cons_zero, List.set_cons_succ, i64_w, i32_w]
                rfl
              refine pure_ (i := 7) (N := some 21) (v := ?_) (a' := ?_) #[true, true, true, false, false, false, true, true, false, false, false, false, false, false] rfl rfl (any_of HT_.out (by kernel_rfl)) (fun _ _ _ h => h) (Or.inl ⟨by rfl, ?_⟩) ?_ ?_
              rotate_left
              · intro w'
                go_simp
                with_reducible rfl
              rotate_left
              · simp only [Act.put, List.setIfInBounds_toArray, List.set_cons_zero, List.set_cons_succ, i64_w, i32_w]
                rfl
              refine pure_ (i := 8) (N := some 22) (v := ?_) (a' := ?_) #[true, true, true, false, false, false, true, true, true, false, false, false, false, false] rfl rfl (any_of HT_.out (by kernel_rfl)) (fun _ _ _ h => h) (Or.inl ⟨by rfl, ?_⟩) ?_ ?_
              rotate_left
              · intro w'
                go_simp
                with_reducible rfl
              rotate_left
              · simp only [Act.put, List.setIfInBounds_toArray, List.set_cons_zero, List.set_cons_succ, i64_w, i32_w]
                rfl
              refine take_ (i := 3) (N := some 17) (v := ?_) (a' := ?_) #[true, true, true, true, false, false, true, true, true, false, false, false, false, false] rfl rfl (take_ofW HT_.out HW_.out (by kernel_rfl)) (fun _ _ _ h => h) (Or.inl ⟨by rfl, ?_⟩) hHeld ?_ ?_
              rotate_left
              · rintro w' ⟨s0, s1⟩
                go_simp
                with_reducible rfl
              rotate_left
              · simp only [Act.put, List.setIfInBounds_toArray, List.set_cons_zero, List.set_cons_succ, i64_w, i32_w]
                rfl
              refine pure_ (i := 4) (N := some 18) (v := ?_) (a' := ?_) #[true, true, true, true, true, false, true, true, true, false, false, false, false, false] rfl rfl (any_of HT_.out (by kernel_rfl)) (fun _ _ _ h => h) (Or.inl ⟨by rfl, ?_⟩) ?_ ?_
              rotate_left
              · intro w'
                go_simp
                with_reducible rfl
              rotate_left
              · simp only [Act.put, List.setIfInBounds_toArray, List.set_cons_zero, List.set_cons_succ, i64_w, i32_w]
                rfl
              refine pure_ (i := 5) (N := some 19) (v := ?_) (a' := ?_) #[true, true, true, true, true, true, true, true, true, false, false, false, false, false] rfl rfl (any_of HT_.out (by kernel_rfl)) (fun _ _ _ h => h) (Or.inl ⟨by rfl, ?_⟩) ?_ ?_
              rotate_left
              · intro w'
                go_simp
                with_reducible rfl
              rotate_left
              · simp only [Act.put, List.setIfInBounds_toArray, List.set_cons_zero, List.set_cons_succ, i64_w, i32_w]
                rfl
              refine take_ (i := 9) (N := some 23) (v := ?_) (a' := ?_) #[true, true, true, true, true, true, true, true, true, true, false, false, false, false] rfl rfl (take_ofW HT_.out HW_.out (by kernel_rfl)) (fun _ _ _ h => h) (Or.inl ⟨by rfl, ?_⟩) hHeld ?_ ?_
              rotate_left
              · rintro w' ⟨s0, s1⟩
                go_simp
                with_reducible rfl
              rotate_left
              · simp only [Act.put, List.setIfInBounds_toArray, List.set_cons_zero, List.set_cons_succ, i64_w, i32_w]
                rfl
              refine pure_ (i := 10) (N := some 24) (v := ?_) (a' := ?_) #[true, true, true, true, true, true, true, true, true, true, true, false, false, false] rfl rfl (any_of HT_.out (by kernel_rfl)) (fun _ _ _ h => h) (Or.inl ⟨by rfl, ?_⟩) ?_ ?_
              rotate_left
              · intro w'
                go_simp
                with_reducible rfl
              rotate_left
              · simp only [Act.put, List.setIfInBounds_toArray, List.set_cons_zero, List.set_cons_succ, i64_w, i32_w]
                rfl
              refine pure_ (i := 11) (N := some 25) (v := ?_) (a' := ?_) #[true, true, true, true, true, true, true, true, true, true, true, true, false, false] rfl rfl (any_of HT_.out (by kernel_rfl)) (fun _ _ _ h => h) (Or.inl ⟨by rfl, ?_⟩) ?_ ?_
              rotate_left
              · intro w'
                go_simp
                with_reducible rfl
              rotate_left
              · simp only [Act.put, List.setIfInBounds_toArray, List.set_cons_zero, List.set_cons_succ, i64_w, i32_w]
                rfl
              refine one_ (i := 12) (N := some 7) #[true, true, true, true, true, true, true, true, true, true, true, true, true, false] rfl rfl (one_of HT_.out (by kernel_rfl)) (by decide) (fun K hK => ?_)
              refine box_step ?hg (N := 7) ?hd (cs := #[.int .i64 0, .bool false, .int .u64 0, .int .u64 0, .int .i64 0, .int .i64 0, .int .i64 0]) (t := 31) ?hr ?_; (case hd => rfl); (case hg => rfl); (case hr => first | (go_simp; done) | (go_simp; rfl))
              intro gb169 hg w32 hbox hb
              have n0_ := Aside0.mk (Kd.R_below (Kd.R_elderB (by (with_reducible repeat (first | apply Kd.R_alloc | apply Kd.R_drewN | apply Kd.R_drew)); exact HO_5.out) gb169 (Nat.le_of_eq hg.symm)) hb)
              have n1_ := Aside0.mk (below_step (by repeat (first | (with_reducible first | exact HB.out | apply below_alloc | apply pw_below_drewN | apply below_drew1) | exact HB.out)) hb)
              have n2_ := Aside0.mk (hbox)
              have n3_ := Aside0.mk ((by rw [hg]; exact (below_size (by repeat (first | (with_reducible first | exact HB.out | apply below_alloc | apply pw_below_drewN | apply below_drew1) | exact HB.out))) : w.heap.size ≤ gb169))
              have n4_ := Aside0.mk ((by rw [hg]; exact (below_size (by repeat (first | (with_reducible first | exact HB.out | apply below_alloc | apply pw_below_drewN | apply below_drew1) | exact HB.out))) : w.heap.size ≤ gb169))
              clear HO_5
              clear HB
              have HO_5 := n0_
              have HB := n1_
              have BK169 := n2_
              have GW169 := n3_
              have GE169 := n4_
              clear n0_ n1_ n2_ n3_ n4_
              clear hb hbox hg
              refine hK.out _ _ ⟨((HB.out.cell (World.block_lt_of_cell? w _ hw167_0)).trans hw167_0), ((HB.out.cell (World.block_lt_of_cell? w _ hw168_0)).trans hw168_0)⟩ (fun hHeld => ?_)
              clear hK K
              refine norm_ (a' := ?_) ?_ ?_
              rotate_left
              · show Act.put _ (some 7) _ = _
                simp only [Act.put, List.setIfInBounds_toArray, List.set_cons_zero, List.set_cons_succ, i64_w, i32_w]
                rfl
              refine one_ (i := 13) (N := none) #[true, true, true, true, true, true, true, true, true, true, true, true, true, true] rfl rfl (one_of HT_.out (by kernel_rfl)) (by decide) (fun K hK => ?_)
              have hs33 : w32.cell? ⟨gb169, 0, none⟩ = some (.int .i64 0) := (blk_cell BK169.out 0).trans rfl
              have hfs33 := blk_frozen BK169.out 0
              have hs34 : w32.cell? ⟨gb169, 1, none⟩ = some (.bool false) := (blk_cell BK169.out 1).trans rfl
              have hfs34 := blk_frozen BK169.out 1
              have hs35 : w32.cell? ⟨gb169, 2, none⟩ = some (.int .u64 0) := (blk_cell BK169.out 2).trans rfl
              have hfs35 := blk_frozen BK169.out 2
              have hs36 : w32.cell? ⟨gb169, 3, none⟩ = some (.int .u64 0) := (blk_cell BK169.out 3).trans rfl
              have hfs36 := blk_frozen BK169.out 3
              have hs37 : w32.cell? ⟨gb169, 4, none⟩ = some (.int .i64 0) := (blk_cell BK169.out 4).trans rfl
              have hfs37 := blk_frozen BK169.out 4
              have hs38 : w32.cell? ⟨gb169, 5, none⟩ = some (.int .i64 0) := (blk_cell BK169.out 5).trans rfl
              have hfs38 := blk_frozen BK169.out 5
              have hs39 : w32.cell? ⟨gb169, 6, none⟩ = some (.int .i64 0) := (blk_cell BK169.out 6).trans rfl
              have hfs39 := blk_frozen BK169.out 6
              refine skip_ (w1 := ?_) (by rfl) rfl ?_ ?_
              rotate_left
              · go_simp
                rfl
              refine hK.out _ _ ⟨((cell_far (p := ⟨gb169, _, none⟩) (by first | exact Nat.ne_of_lt (Nat.lt_of_lt_of_le (by have := World.block_lt_of_cell? _ _ hw167_0; first | rwa [add_block] at this | exact this) GW169.out) | (rw [add_block]; exact Nat.ne_of_lt (Nat.lt_of_lt_of_le (by have := World.block_lt_of_cell? _ _ hw167_0; first | rwa [add_block] at this | exact this) GW169.out)) | (show (Addr.add _ _).block ≠ _; rw [add_block]; exact Nat.ne_of_lt (Nat.lt_of_lt_of_le (by have := World.block_lt_of_cell? _ _ hw167_0; first | rwa [add_block] at this | exact this) GW169.out)) | (dsimp only; exact Nat.ne_of_lt (Nat.lt_of_lt_of_le (by have := World.block_lt_of_cell? _ _ hw167_0; first | rwa [add_block] at this | exact this) GW169.out))) _).trans (((cell_far (p := ⟨gb169, _, none⟩) (by first | exact Nat.ne_of_lt (Nat.lt_of_lt_of_le (by have := World.block_lt_of_cell? _ _ hw167_0; first | rwa [add_block] at this | exact this) GW169.out) | (rw [add_block]; exact Nat.ne_of_lt (Nat.lt_of_lt_of_le (by have := World.block_lt_of_cell? _ _ hw167_0; first | rwa [add_block] at this | exact this) GW169.out)) | (show (Addr.add _ _).block ≠ _; rw [add_block]; exact Nat.ne_of_lt (Nat.lt_of_lt_of_le (by have := World.block_lt_of_cell? _ _ hw167_0; first | rwa [add_block] at this | exact this) GW169.out)) | (dsimp only; exact Nat.ne_of_lt (Nat.lt_of_lt_of_le (by have := World.block_lt_of_cell? _ _ hw167_0; first | rwa [add_block] at this | exact this) GW169.out))) _).trans (((cell_far (p := ⟨gb169, _, none⟩) (by first | exact Nat.ne_of_lt (Nat.lt_of_lt_of_le (by have := World.block_lt_of_cell? _ _ hw167_0; first | rwa [add_block] at this | exact this) GW169.out) | (rw [add_block]; exact Nat.ne_of_lt (Nat.lt_of_lt_of_le (by have := World.block_lt_of_cell? _ _ hw167_0; first | rwa [add_block] at this | exact this) GW169.out)) | (show (Addr.add _ _).block ≠ _; rw [add_block]; exact Nat.ne_of_lt (Nat.lt_of_lt_of_le (by have := World.block_lt_of_cell? _ _ hw167_0; first | rwa [add_block] at this | exact this) GW169.out)) | (dsimp only; exact Nat.ne_of_lt (Nat.lt_of_lt_of_le (by have := World.block_lt_of_cell? _ _ hw167_0; first | rwa [add_block] at this | exact this) GW169.out))) _).trans (((cell_far (p := ⟨gb169, _, none⟩) (by first | exact Nat.ne_of_lt (Nat.lt_of_lt_of_le (by have := World.block_lt_of_cell? _ _ hw167_0; first | rwa [add_block] at this | exact this) GW169.out) | (rw [add_block]; exact Nat.ne_of_lt (Nat.lt_of_lt_of_le (by have := World.block_lt_of_cell? _ _ hw167_0; first | rwa [add_block] at this | exact this) GW169.out)) | (show (Addr.add _ _).block ≠ _; rw [add_block]; exact Nat.ne_of_lt (Nat.lt_of_lt_of_le (by have := World.block_lt_of_cell? _ _ hw167_0; first | rwa [add_block] at this | exact this) GW169.out)) | (dsimp only; exact Nat.ne_of_lt (Nat.lt_of_lt_of_le (by have := World.block_lt_of_cell? _ _ hw167_0; first | rwa [add_block] at this | exact this) GW169.out))) _).trans (((cell_far (p := ⟨gb169, _, none⟩) (by first | exact Nat.ne_of_lt (Nat.lt_of_lt_of_le (by have := World.block_lt_of_cell? _ _ hw167_0; first | rwa [add_block] at this | exact this) GW169.out) | (rw [add_block]; exact Nat.ne_of_lt (Nat.lt_of_lt_of_le (by have := World.block_lt_of_cell? _ _ hw167_0; first | rwa [add_block] at this | exact this) GW169.out)) | (show (Addr.add _ _).block ≠ _; rw [add_block]; exact Nat.ne_of_lt (Nat.lt_of_lt_of_le (by have := World.block_lt_of_cell? _ _ hw167_0; first | rwa [add_block] at this | exact this) GW169.out)) | (dsimp only; exact Nat.ne_of_lt (Nat.lt_of_lt_of_le (by have := World.block_lt_of_cell? _ _ hw167_0; first | rwa [add_block] at this | exact this) GW169.out))) _).trans (((cell_far (p := ⟨gb169, _, none⟩) (by first | exact Nat.ne_of_lt (Nat.lt_of_lt_of_le (by have := World.block_lt_of_cell? _ _ hw167_0; first | rwa [add_block] at this | exact this) GW169.out) | (rw [add_block]; exact Nat.ne_of_lt (Nat.lt_of_lt_of_le (by have := World.block_lt_of_cell? _ _ hw167_0; first | rwa [add_block] at this | exact this) GW169.out)) | (show (Addr.add _ _).block ≠ _; rw [add_block]; exact Nat.ne_of_lt (Nat.lt_of_lt_of_le (by have := World.block_lt_of_cell? _ _ hw167_0; first | rwa [add_block] at this | exact this) GW169.out)) | (dsimp only; exact Nat.ne_of_lt (Nat.lt_of_lt_of_le (by have := World.block_lt_of_cell? _ _ hw167_0; first | rwa [add_block] at this | exact this) GW169.out))) _).trans (((cell_far (p := ⟨gb169, _, none⟩) (by first | exact Nat.ne_of_lt (Nat.lt_of_lt_of_le (by have := World.block_lt_of_cell? _ _ hw167_0; first | rwa [add_block] at this | exact this) GW169.out) | (rw [add_block]; exact Nat.ne_of_lt (Nat.lt_of_lt_of_le (by have := World.block_lt_of_cell? _ _ hw167_0; first | rwa [add_block] at this | exact this) GW169.out)) | (show (Addr.add _ _).block ≠ _; rw [add_block]; exact Nat.ne_of_lt (Nat.lt_of_lt_of_le (by have := World.block_lt_of_cell? _ _ hw167_0; first | rwa [add_block] at this | exact this) GW169.out)) | (dsimp only; exact Nat.ne_of_lt (Nat.lt_of_lt_of_le (by have := World.block_lt_of_cell? _ _ hw167_0; first | rwa [add_block] at this | exact this) GW169.out))) _).trans (hHeld.1)))))))))))))), ((cell_far (p := ⟨gb169, _, none⟩) (by first | exact Nat.ne_of_lt (Nat.lt_of_lt_of_le (by have := World.block_lt_of_cell? _ _ hw168_0; first | rwa [add_block] at this | exact this) GW169.out) | (rw [add_block]; exact Nat.ne_of_lt (Nat.lt_of_lt_of_le (by have := World.block_lt_of_cell? _ _ hw168_0; first | rwa [add_block] at this | exact this) GW169.out)) | (show (Addr.add _ _).block ≠ _; rw [add_block]; exact Nat.ne_of_lt (Nat.lt_of_lt_of_le (by have := World.block_lt_of_cell? _ _ hw168_0; first | rwa [add_block] at this | exact this) GW169.out)) | (dsimp only; exact Nat.ne_of_lt (Nat.lt_of_lt_of_le (by have := World.block_lt_of_cell? _ _ hw168_0; first | rwa [add_block] at this | exact this) GW169.out))) _).trans (((cell_far (p := ⟨gb169, _, none⟩) (by first | exact Nat.ne_of_lt (Nat.lt_of_lt_of_le (by have := World.block_lt_of_cell? _ _ hw168_0; first | rwa [add_block] at this | exact this) GW169.out) | (rw [add_block]; exact Nat.ne_of_lt (Nat.lt_of_lt_of_le (by have := World.block_lt_of_cell? _ _ hw168_0; first | rwa [add_block] at this | exact this) GW169.out)) | (show (Addr.add _ _).block ≠ _; rw [add_block]; exact Nat.ne_of_lt (Nat.lt_of_lt_of_le (by have := World.block_lt_of_cell? _ _ hw168_0; first | rwa [add_block] at this | exact this) GW169.out)) | (dsimp only; exact Nat.ne_of_lt (Nat.lt_of_lt_of_le (by have := World.block_lt_of_cell? _ _ hw168_0; first | rwa [add_block] at this | exact this) GW169.out))) _).trans (((cell_far (p := ⟨gb169, _, none⟩) (by first | exact Nat.ne_of_lt (Nat.lt_of_lt_of_le (by have := World.block_lt_of_cell? _ _ hw168_0; first | rwa [add_block] at this | exact this) GW169.out) | (rw [add_block]; exact Nat.ne_of_lt (Nat.lt_of_lt_of_le (by have := World.block_lt_of_cell? _ _ hw168_0; first | rwa [add_block] at this | exact this) GW169.out)) | (show (Addr.add _ _).block ≠ _; rw [add_block]; exact Nat.ne_of_lt (Nat.lt_of_lt_of_le (by have := World.block_lt_of_cell? _ _ hw168_0; first | rwa [add_block] at this | exact this) GW169.out)) | (dsimp only; exact Nat.ne_of_lt (Nat.lt_of_lt_of_le (by have := World.block_lt_of_cell? _ _ hw168_0; first | rwa [add_block] at this | exact this) GW169.out))) _).trans (((cell_far (p := ⟨gb169, _, none⟩) (by first | exact Nat.ne_of_lt (Nat.lt_of_lt_of_le (by have := World.block_lt_of_cell? _ _ hw168_0; first | rwa [add_block] at this | exact this) GW169.out) | (rw [add_block]; exact Nat.ne_of_lt (Nat.lt_of_lt_of_le (by have := World.block_lt_of_cell? _ _ hw168_0; first | rwa [add_block] at this | exact this) GW169.out)) | (show (Addr.add _ _).block ≠ _; rw [add_block]; exact Nat.ne_of_lt (Nat.lt_of_lt_of_le (by have := World.block_lt_of_cell? _ _ hw168_0; first | rwa [add_block] at this | exact this) GW169.out)) | (dsimp only; exact Nat.ne_of_lt (Nat.lt_of_lt_of_le (by have := World.block_lt_of_cell? _ _ hw168_0; first | rwa [add_block] at this | exact this) GW169.out))) _).trans (((cell_far (p := ⟨gb169, _, none⟩) (by first | exact Nat.ne_of_lt (Nat.lt_of_lt_of_le (by have := World.block_lt_of_cell? _ _ hw168_0; first | rwa [add_block] at this | exact this) GW169.out) | (rw [add_block]; exact Nat.ne_of_lt (Nat.lt_of_lt_of_le (by have := World.block_lt_of_cell? _ _ hw168_0; first | rwa [add_block] at this | exact this) GW169.out)) | (show (Addr.add _ _).block ≠ _; rw [add_block]; exact Nat.ne_of_lt (Nat.lt_of_lt_of_le (by have := World.block_lt_of_cell? _ _ hw168_0; first | rwa [add_block] at this | exact this) GW169.out)) | (dsimp only; exact Nat.ne_of_lt (Nat.lt_of_lt_of_le (by have := World.block_lt_of_cell? _ _ hw168_0; first | rwa [add_block] at this | exact this) GW169.out))) _).trans (((cell_far (p := ⟨gb169, _, none⟩) (by first | exact Nat.ne_of_lt (Nat.lt_of_lt_of_le (by have := World.block_lt_of_cell? _ _ hw168_0; first | rwa [add_block] at this | exact this) GW169.out) | (rw [add_block]; exact Nat.ne_of_lt (Nat.lt_of_lt_of_le (by have := World.block_lt_of_cell? _ _ hw168_0; first | rwa [add_block] at this | exact this) GW169.out)) | (show (Addr.add _ _).block ≠ _; rw [add_block]; exact Nat.ne_of_lt (Nat.lt_of_lt_of_le (by have := World.block_lt_of_cell? _ _ hw168_0; first | rwa [add_block] at this | exact this) GW169.out)) | (dsimp only; exact Nat.ne_of_lt (Nat.lt_of_lt_of_le (by have := World.block_lt_of_cell? _ _ hw168_0; first | rwa [add_block] at this | exact this) GW169.out))) _).trans (((cell_far (p := ⟨gb169, _, none⟩) (by first | exact Nat.ne_of_lt (Nat.lt_of_lt_of_le (by have := World.block_lt_of_cell? _ _ hw168_0; first | rwa [add_block] at this | exact this) GW169.out) | (rw [add_block]; exact Nat.ne_of_lt (Nat.lt_of_lt_of_le (by have := World.block_lt_of_cell? _ _ hw168_0; first | rwa [add_block] at this | exact this) GW169.out)) | (show (Addr.add _ _).block ≠ _; rw [add_block]; exact Nat.ne_of_lt (Nat.lt_of_lt_of_le (by have := World.block_lt_of_cell? _ _ hw168_0; first | rwa [add_block] at this | exact this) GW169.out)) | (dsimp only; exact Nat.ne_of_lt (Nat.lt_of_lt_of_le (by have := World.block_lt_of_cell? _ _ hw168_0; first | rwa [add_block] at this | exact this) GW169.out))) _).trans (hHeld.2))))))))))))))⟩ (fun hHeld => ?_)
              clear hK K
              refine done_ (done_of HT_.out (by kernel_rfl)) ?_
              have hcz40_0 : w32.cell? ⟨gb169, 0, none⟩ = some (.int .i64 0) := (blk_cell BK169.out 0).trans rfl
              have hcz40_1 : w32.cell? ⟨gb169, 1, none⟩ = some (.bool false) := (blk_cell BK169.out 1).trans rfl
              have hcz40_2 : w32.cell? ⟨gb169, 2, none⟩ = some (.int .u64 0) := (blk_cell BK169.out 2).trans rfl
              have hcz40_3 : w32.cell? ⟨gb169, 3, none⟩ = some (.int .u64 0) := (blk_cell BK169.out 3).trans rfl
              have hcz40_4 : w32.cell? ⟨gb169, 4, none⟩ = some (.int .i64 0) := (blk_cell BK169.out 4).trans rfl
              have hcz40_5 : w32.cell? ⟨gb169, 5, none⟩ = some (.int .i64 0) := (blk_cell BK169.out 5).trans rfl
              have hcz40_6 : w32.cell? ⟨gb169, 6, none⟩ = some (.int .i64 0) := (blk_cell BK169.out 6).trans rfl
              have hfz40_0 := blk_frozen BK169.out 0
              have hfz40_1 := blk_frozen BK169.out 1
              have hfz40_2 := blk_frozen BK169.out 2
              have hfz40_3 := blk_frozen BK169.out 3
              have hfz40_4 := blk_frozen BK169.out 4
              have hfz40_5 := blk_frozen BK169.out 5
              have hfz40_6 := blk_frozen BK169.out 6
              go_upto_if 46 with (first | ((with_reducible refine gate_callee (f := 19) rfl ?_); refine goesL_ (some 32) rfl rfl Try.func19 (by kernel_rfl) rfl #[.agg #[.int .i64 (wrap64 (Int.tmod (rd l0 x6_1) 128)), .bool (decide ((rd l0 x6_1) ≥ 128)), .int .u64 0, .int .u64 0, .int .i64 0, .int .i64 0, .int .i64 0]] rfl (by (try simp only [List.map_toArray, List.map_cons, List.map_nil]); first | done | rfl | (simp only [List.length_drop, List.length_take]; rfl)) ?_; (with_reducible refine (silhouetteref12_one.calls k1 (wrap64 (Int.tmod (rd l0 x6_1) 128)) (decide ((rd l0 x6_1) ≥ 128)) 0 0 0 0 0 t170 _ A15.out).mono ?_); rintro e w41 ⟨v171, rfl, ho0, hb⟩; refine ⟨_, rfl, ?_⟩; have n0_ := Aside0.mk (Kd.R_below (by (with_reducible repeat (first | apply Kd.R_alloc | apply Kd.R_drewN | apply Kd.R_drew)); exact (Kd.R_mono (Kd.R_far (p := ⟨gb169, 6, none⟩) (Kd.R_far (p := ⟨gb169, 5, none⟩) (Kd.R_far (p := ⟨gb169, 4, none⟩) (Kd.R_far (p := ⟨gb169, 3, none⟩) (Kd.R_far (p := ⟨gb169, 2, none⟩) (Kd.R_far (p := ⟨gb169, 1, none⟩) (Kd.R_far (p := ⟨gb169, 0, none⟩) (Kd.R_mono HO_5.out (fun k_ hk => (⟨hk, hk.2⟩ : _ ∧ k_ ≠ gb169))) (fun _ hk => hk.2) (.int .i64 (wrap64 (Int.tmod (rd l0 x6_1) 128)))) (fun _ hk => hk.2) (.bool (decide ((rd l0 x6_1) ≥ 128)))) (fun _ hk => hk.2) (.int .u64 0)) (fun _ hk => hk.2) (.int .u64 0)) (fun _ hk => hk.2) (.int .i64 0)) (fun _ hk => hk.2) (.int .i64 0)) (fun _ hk => hk.2) (.int .i64 0)) (fun _ h_ => h_.1))) hb); have n1_ := Aside0.mk (Kd.R_lower ho0 (below_size (by repeat (first | (with_reducible first | exact HB.out | apply below_alloc | apply pw_below_drewN | apply below_drew1 | refine below_set ?_ GE169.out) | exact HB.out)))); have n2_ := Aside0.mk (blk_below (g := gb169) (o := .cells #[.int .i64 (wrap64 (Int.tmod (rd l0 x6_1) 128)), .bool (decide ((rd l0 x6_1) ≥ 128)), .int .u64 0, .int .u64 0, .int .i64 0, .int .i64 0, .int .i64 0] 31 (0, 0)) (by (with_reducible repeat (first | refine blk_drewN ?_ _ | refine blk_drew ?_ | refine blk_alloc ?_ _)); refine blk_put (cs := #[.int .i64 (wrap64 (Int.tmod (rd l0 x6_1) 128)), .bool (decide ((rd l0 x6_1) ≥ 128)), .int .u64 0, .int .u64 0, .int .i64 0, .int .i64 0, .int .i64 0]) ?_ 6 _ rfl; (with_reducible repeat (first | refine blk_drewN ?_ _ | refine blk_drew ?_ | refine blk_alloc ?_ _)); refine blk_put (cs := #[.int .i64 (wrap64 (Int.tmod (rd l0 x6_1) 128)), .bool (decide ((rd l0 x6_1) ≥ 128)), .int .u64 0, .int .u64 0, .int .i64 0, .int .i64 0, .int .i64 0]) ?_ 5 _ rfl; (with_reducible repeat (first | refine blk_drewN ?_ _ | refine blk_drew ?_ | refine blk_alloc ?_ _)); refine blk_put (cs := #[.int .i64 (wrap64 (Int.tmod (rd l0 x6_1) 128)), .bool (decide ((rd l0 x6_1) ≥ 128)), .int .u64 0, .int .u64 0, .int .i64 0, .int .i64 0, .int .i64 0]) ?_ 4 _ rfl; (with_reducible repeat (first | refine blk_drewN ?_ _ | refine blk_drew ?_ | refine blk_alloc ?_ _)); refine blk_put (cs := #[.int .i64 (wrap64 (Int.tmod (rd l0 x6_1) 128)), .bool (decide ((rd l0 x6_1) ≥ 128)), .int .u64 0, .int .u64 0, .int .i64 0, .int .i64 0, .int .i64 0]) ?_ 3 _ rfl; (with_reducible repeat (first | refine blk_drewN ?_ _ | refine blk_drew ?_ | refine blk_alloc ?_ _)); refine blk_put (cs := #[.int .i64 (wrap64 (Int.tmod (rd l0 x6_1) 128)), .bool (decide ((rd l0 x6_1) ≥ 128)), .int .u64 0, .int .u64 0, .int .i64 0, .int .i64 0, .int .i64 0]) ?_ 2 _ rfl; (with_reducible repeat (first | refine blk_drewN ?_ _ | refine blk_drew ?_ | refine blk_alloc ?_ _)); refine blk_put (cs := #[.int .i64 (wrap64 (Int.tmod (rd l0 x6_1) 128)), .bool false, .int .u64 0, .int .u64 0, .int .i64 0, .int .i64 0, .int .i64 0]) ?_ 1 _ rfl; (with_reducible repeat (first | refine blk_drewN ?_ _ | refine blk_drew ?_ | refine blk_alloc ?_ _)); refine blk_put (cs := #[.int .i64 0, .bool false, .int .u64 0, .int .u64 0, .int .i64 0, .int .i64 0, .int .i64 0]) ?_ 0 _ rfl; (with_reducible repeat (first | refine blk_drewN ?_ _ | refine blk_drew ?_ | refine blk_alloc ?_ _)); exact BK169.out) hb); have n3_ := Aside0.mk (below_step (by repeat (first | (with_reducible first | exact HB.out | apply below_alloc | apply pw_below_drewN | apply below_drew1 | refine below_set ?_ GE169.out) | exact HB.out)) hb); clear HO_5; clear BK169; clear HB; have HO_5 := n0_; have HO172 := n1_; have BK169 := n2_; have HB := n3_; clear n0_ n1_ n2_ n3_; (try clear hb); (try clear hb2); (try clear hk); (try clear hi); (try clear ho0); obtain ⟨Ao42, co42, eo42⟩ := Kd.R_slice HO172.out; subst eo42; have hcz43_0 : w41.cell? ⟨gb169, 0, none⟩ = some (.int .i64 (wrap64 (Int.tmod (rd l0 x6_1) 128))) := (blk_cell BK169.out 0).trans rfl; have hcz43_1 : w41.cell? ⟨gb169, 1, none⟩ = some (.bool (decide ((rd l0 x6_1) ≥ 128))) := (blk_cell BK169.out 1).trans rfl; have hcz43_2 : w41.cell? ⟨gb169, 2, none⟩ = some (.int .u64 0) := (blk_cell BK169.out 2).trans rfl; have hcz43_3 : w41.cell? ⟨gb169, 3, none⟩ = some (.int .u64 0) := (blk_cell BK169.out 3).trans rfl; have hcz43_4 : w41.cell? ⟨gb169, 4, none⟩ = some (.int .i64 0) := (blk_cell BK169.out 4).trans rfl; have hcz43_5 : w41.cell? ⟨gb169, 5, none⟩ = some (.int .i64 0) := (blk_cell BK169.out 5).trans rfl; have hcz43_6 : w41.cell? ⟨gb169, 6, none⟩ = some (.int .i64 0) := (blk_cell BK169.out 6).trans rfl; have hfz43_0 := blk_frozen BK169.out 0; have hfz43_1 := blk_frozen BK169.out 1; have hfz43_2 := blk_frozen BK169.out 2; have hfz43_3 := blk_frozen BK169.out 3; have hfz43_4 := blk_frozen BK169.out 4; have hfz43_5 := blk_frozen BK169.out 5; have hfz43_6 := blk_frozen BK169.out 6) | ((with_reducible refine gate_callee (f := 20) rfl ?_); refine goesL_ (some 46) rfl rfl Try.func20 (by kernel_rfl) rfl #[.int .i64 (wrap64 (Int.tmod (rd l0 x6_1) 128)), .int .u8 65] rfl (by (try simp only [List.map_toArray, List.map_cons, List.map_nil]); first | done | rfl | (simp only [List.length_drop, List.length_take]; rfl)) ?_; (with_reducible refine (silhouetteref12_has.calls k1 (wrap64 (Int.tmod (rd l0 x6_1) 128)) 65 t173 _ A29.out).mono ?_); rintro e w' ⟨rfl, ⟨nd, rfl⟩⟩; refine ⟨_, rfl, ?_⟩))
              (try simp only [Act.put, List.setIfInBounds_toArray, List.set_cons_zero, List.set_cons_succ])
              go_cut [9] (fun v9 wc => ∃ (kq : Nat) (x9_29 : Int) (x170002_29 : Int), v9 = .int .i64 x9_29 ∧ Aside0 (silhouetteref12_Get.j1 kq l0 x5_1 x6_1 (t170.length : Int) x9_29 (wrap64 (Int.tmod (rd l0 x6_1) 128)) (decide ((rd l0 x6_1) ≥ 128)) x170002_29 0 0 0 0 = some (r1, r2, r3)) ∧ Aside0 (kq ≤ k1) ∧ Aside0 (Kd.R k31 31 wc w.heap.size (fun k_ => k_ ≠ gb169) u5 x5_1) ∧ Aside0 (wc.heap[gb169]? = some (.cells #[.int .i64 (wrap64 (Int.tmod (rd l0 x6_1) 128)), .bool (decide ((rd l0 x6_1) ≥ 128)), .int .u64 x170002_29, .int .u64 0, .int .i64 0, .int .i64 0, .int .i64 0] 31 (0, 0))) ∧ Aside0 (Below w.heap.size w wc))
              case first =>
                have H := HC30.out
                clear HC30
                by_cases c44 : t173 = true
                · subst c44
                  have H1 : (if 0 ≤ (wrap64 (x6_1 + 1)) then (if (wrap64 (x6_1 + 1)) ≤ (wrap64 ((wrap64 (x6_1 + 1)) + 8)) then (if (wrap64 ((wrap64 (x6_1 + 1)) + 8)) ≤ (l0.length : Int) then ((silhouetteref12_number.f k1 ((l0.take ((wrap64 ((wrap64 (x6_1 + 1)) + 8)) : Int).toNat).drop ((wrap64 (x6_1 + 1)) : Int).toNat)).bind fun t175 => (silhouetteref12_Get.j1 k1 l0 x5_1 x6_1 (t170.length : Int) (wrap64 ((wrap64 (x6_1 + 1)) + 8)) (wrap64 (Int.tmod (rd l0 x6_1) 128)) (decide ((rd l0 x6_1) ≥ 128)) t175 0 0 0 0)) else (none)) else (none)) else (none)) = some (r1, r2, r3) := by rw [if_pos rfl] at H; exact H
                  clear H
                  have H := H1
                  clear H1
                  obtain ⟨ji45, hji45⟩ : ∃ j_ : Int, (wrap64 (x6_1 + 1)) = j_ := ⟨_, rfl⟩
                  replace H : (if 0 ≤ (ji45) then (if (ji45) ≤ (wrap64 ((ji45) + 8)) then (if (wrap64 ((ji45) + 8)) ≤ (l0.length : Int) then ((silhouetteref12_number.f k1 ((l0.take ((wrap64 ((ji45) + 8)) : Int).toNat).drop ((ji45) : Int).toNat)).bind fun t175 => (silhouetteref12_Get.j1 k1 l0 x5_1 x6_1 (t170.length : Int) (wrap64 ((ji45) + 8)) (wrap64 (Int.tmod (rd l0 x6_1) 128)) (decide ((rd l0 x6_1) ≥ 128)) t175 0 0 0 0)) else (none)) else (none)) else (none)) = some (r1, r2, r3) := by first | (rw [hji45] at H; exact H) | (simp only [hji45] at H ⊢; exact H)
                  have hji45w : (IntKind.i64.wrap (x6_1 + 1)) = ji45 := (i64_w _).trans hji45
                  by_cases c46 : 0 ≤ (ji45)
                  · rw [if_pos c46] at H
                    have c46b0 := eq_true c46
                    have c46b1 : decide (0 ≤ (ji45)) = true := decide_eq_true c46
                    clear c46
                    by_cases c47 : (ji45) ≤ (wrap64 ((ji45) + 8))
                    · rw [if_pos c47] at H
                      have c47b0 := eq_true c47
                      have c47b1 : decide ((ji45) ≤ (wrap64 ((ji45) + 8))) = true := decide_eq_true c47
                      by_cases c48 : (wrap64 ((ji45) + 8)) ≤ (l0.length : Int)
                      · rw [if_pos c48] at H
                        have c48b0 := eq_true c48
                        have c48b1 : decide ((wrap64 ((ji45) + 8)) ≤ (l0.length : Int)) = true := decide_eq_true c48
                        replace H := Option.bind_eq_some_iff.mp H
                        obtain ⟨t175, A490, H⟩ := H
                        replace H : (silhouetteref12_Get.j1 k1 l0 x5_1 x6_1 (t170.length : Int) (wrap64 ((ji45) + 8)) (wrap64 (Int.tmod (rd l0 x6_1) 128)) (decide ((rd l0 x6_1) ≥ 128)) t175 0 0 0 0) = some (r1, r2, r3) := H
                        have A49 := Aside0.mk A490
                        clear A490
                        have H' := Aside0.mk H
                        clear H
                        obtain ⟨i050, hi050, _, hsz50, _⟩ := info_parts info5
                        obtain ⟨A50, hcut50, hA50, hC50⟩ := print_mid_of (P := Try.prog) (Value.int .u8) 0 23 5 .i64 .i64 Try.underlying23 hi050 hsz50 (some ad167) c0 l0 (ji45) (wrap64 ((ji45) + 8)) (of_decide_eq_true (by first | (with_reducible assumption) | assumption)) (by first | omega | exact of_decide_eq_true (by first | (with_reducible assumption) | assumption)) (of_decide_eq_true (by first | (with_reducible assumption) | assumption)) HC0.out
                        have HR174 := Aside0.mk (Kd.C_of_reads (h1 := fun _ => rfl) (hA50 _ (Kd.reads_of_C HR0.out)))
                        have HC174 := Aside0.mk hC50
                        clear hA50 hC50 hi050 hsz50
                        go_wp2_with (first | ((with_reducible refine gate_callee (f := 21) rfl ?_); refine goesL_ (some 52) rfl rfl Try.func21 (by kernel_rfl) rfl #[.slice A50 ((l0.take ((wrap64 ((ji45) + 8)) : Int).toNat).drop ((ji45) : Int).toNat).length (c0 - (ji45).toNat)] rfl (by (try simp only [List.map_toArray, List.map_cons, List.map_nil]); first | done | (rw [show ((l0.take ((wrap64 ((ji45) + 8)) : Int).toNat).drop ((ji45) : Int).toNat).length = ((wrap64 ((ji45) + 8)).toNat - (ji45).toNat) from (by rw [List.length_drop, List.length_take]; have h_ : ((wrap64 ((ji45) + 8)) : Int) ≤ (l0.length : Int) := of_decide_eq_true (by first | (with_reducible assumption) | assumption); omega)] <;> rfl) | (simp only [hji45]; rfl) | rfl | (simp only [List.length_drop, List.length_take]; rfl)) ?_; (with_reducible refine (silhouetteref12_number.calls k1 _ _ ((l0.take ((wrap64 ((ji45) + 8)) : Int).toNat).drop ((ji45) : Int).toNat) t175 _ ?side1 ?side2 A49.out).mono ?_); (case side1 => repeat (first | exact (Kd.C_below HR174.out HB.out) | (with_reducible refine Kd.C_alloc ?_ _) | (with_reducible refine Kd.C_drewN ?_ _) | (with_reducible refine Kd.C_drew ?_))); (case side2 => exact HC174.out); rintro e w' ⟨rfl, ⟨nd, rfl⟩⟩; refine ⟨_, rfl, ?_⟩; (try (rw [drewN_self w41]; generalize hq_ : World.drewN w41 _ = w41; have n0_ : Aside0 (Kd.R (Kd.int .u8) 5 w41 w.heap.size (fun _ => True) (.slice Ao42 t170.length co42) t170) := ⟨by rw [← hq_]; exact (by (with_reducible repeat (first | apply Kd.R_alloc | apply Kd.R_drewN | apply Kd.R_drew)); exact HO172.out)⟩; have n1_ : Aside0 (Kd.R k31 31 w41 w.heap.size (fun k_ => k_ ≠ gb169) u5 x5_1) := ⟨by rw [← hq_]; exact (by (with_reducible repeat (first | apply Kd.R_alloc | apply Kd.R_drewN | apply Kd.R_drew)); exact Kd.R_mono HO_5.out (fun _ hk => hk.2))⟩; have n2_ : Aside0 (w41.heap[gb169]? = some (.cells #[.int .i64 (wrap64 (Int.tmod (rd l0 x6_1) 128)), .bool (decide ((rd l0 x6_1) ≥ 128)), .int .u64 0, .int .u64 0, .int .i64 0, .int .i64 0, .int .i64 0] 31 (0, 0))) := ⟨by rw [← hq_]; exact (by (with_reducible repeat (first | refine blk_drewN ?_ _ | refine blk_drew ?_ | refine blk_alloc ?_ _)); exact BK169.out)⟩; have n3_ : Aside0 (Below w.heap.size w w41) := ⟨by rw [← hq_]; exact (by repeat (first | (with_reducible first | exact HB.out | apply below_alloc | apply pw_below_drewN | apply below_drew1 | refine below_set ?_ GE169.out) | exact HB.out))⟩; clear HO172 HO_5 BK169 HB hq_; have HO172 := n0_; have HO_5 := n1_; have BK169 := n2_; have HB := n3_; clear n0_ n1_ n2_ n3_)); have hcz51_0 : w41.cell? ⟨gb169, 0, none⟩ = some (.int .i64 (wrap64 (Int.tmod (rd l0 x6_1) 128))) := (blk_cell BK169.out 0).trans rfl; have hcz51_1 : w41.cell? ⟨gb169, 1, none⟩ = some (.bool (decide ((rd l0 x6_1) ≥ 128))) := (blk_cell BK169.out 1).trans rfl; have hcz51_2 : w41.cell? ⟨gb169, 2, none⟩ = some (.int .u64 0) := (blk_cell BK169.out 2).trans rfl; have hcz51_3 : w41.cell? ⟨gb169, 3, none⟩ = some (.int .u64 0) := (blk_cell BK169.out 3).trans rfl; have hcz51_4 : w41.cell? ⟨gb169, 4, none⟩ = some (.int .i64 0) := (blk_cell BK169.out 4).trans rfl; have hcz51_5 : w41.cell? ⟨gb169, 5, none⟩ = some (.int .i64 0) := (blk_cell BK169.out 5).trans rfl; have hcz51_6 : w41.cell? ⟨gb169, 6, none⟩ = some (.int .i64 0) := (blk_cell BK169.out 6).trans rfl; have hfz51_0 := blk_frozen BK169.out 0; have hfz51_1 := blk_frozen BK169.out 1; have hfz51_2 := blk_frozen BK169.out 2; have hfz51_3 := blk_frozen BK169.out 3; have hfz51_4 := blk_frozen BK169.out 4; have hfz51_5 := blk_frozen BK169.out 5; have hfz51_6 := blk_frozen BK169.out 6))
                        go_meet
                        case rel => exact ⟨_, (wrap64 ((ji45) + 8)), (t175), (by first | rfl | (simp; done) | (simp only [← hji45] <;> (first | rfl | simp)) | (simp [*]; done)), H', ⟨by have := HK1.out; first | omega | exact Nat.le_refl _⟩, ⟨by (with_reducible repeat (first | apply Kd.R_alloc | apply Kd.R_drewN | apply Kd.R_drew)); first | exact Kd.R_mono (Kd.R_far (p := ⟨gb169, 2, none⟩) (Kd.R_mono HO_5.out (fun k_ hk => (⟨hk, hk⟩ : _ ∧ k_ ≠ gb169))) (fun _ hk => hk.2) (.int .u64 t175)) (fun _ hk => hk.1) | (exact Kd.R_mono (Kd.R_far (p := ⟨gb169, 2, none⟩) (Kd.R_mono HO_5.out (fun k_ hk => (⟨hk, hk.2⟩ : _ ∧ k_ ≠ gb169))) (fun _ hk => hk.2) (.int .u64 t175)) (fun _ hk => hk.1.2)) | exact Kd.R_mono (Kd.R_set HO_5.out BK169.out (by decide) 2 (.int .u64 t175)) (fun _ hk => hk.2)⟩, ⟨by (with_reducible repeat (first | refine blk_drewN ?_ _ | refine blk_drew ?_ | refine blk_alloc ?_ _)); refine blk_put (cs := #[.int .i64 (wrap64 (Int.tmod (rd l0 x6_1) 128)), .bool (decide ((rd l0 x6_1) ≥ 128)), .int .u64 0, .int .u64 0, .int .i64 0, .int .i64 0, .int .i64 0]) ?_ 2 _ rfl; (with_reducible repeat (first | refine blk_drewN ?_ _ | refine blk_drew ?_ | refine blk_alloc ?_ _)); exact BK169.out⟩, ⟨by repeat (first | (with_reducible first | exact HB.out | apply below_alloc | apply pw_below_drewN | apply below_drew1 | refine below_set ?_ GE169.out) | exact HB.out)⟩⟩
                      · rw [if_neg c48] at H
                        exact absurd H (by simp)
                    · rw [if_neg c47] at H
                      exact absurd H (by simp)
                  · rw [if_neg c46] at H
                    exact absurd H (by simp)
                · replace c44 := Bool.eq_false_iff.mpr c44
                  subst c44
                  have H1 : (silhouetteref12_Get.j1 k1 l0 x5_1 x6_1 (t170.length : Int) (wrap64 (x6_1 + 1)) (wrap64 (Int.tmod (rd l0 x6_1) 128)) (decide ((rd l0 x6_1) ≥ 128)) 0 0 0 0 0) = some (r1, r2, r3) := by rw [if_neg (show ¬ (false = true) by decide)] at H; exact H
                  clear H
                  have H := H1
                  clear H1
                  have H' := Aside0.mk H
                  clear H
                  go_wp2
                  go_meet
                  case rel => exact ⟨_, (wrap64 (x6_1 + 1)), (0), (by first | rfl | (simp; done) | (simp [*]; done)), H', ⟨by have := HK1.out; first | omega | exact Nat.le_refl _⟩, ⟨by (with_reducible repeat (first | apply Kd.R_alloc | apply Kd.R_drewN | apply Kd.R_drew)); exact Kd.R_mono HO_5.out (fun _ hk => hk.2)⟩, ⟨by (with_reducible repeat (first | refine blk_drewN ?_ _ | refine blk_drew ?_ | refine blk_alloc ?_ _)); exact BK169.out⟩, ⟨by repeat (first | (with_reducible first | exact HB.out | apply below_alloc | apply pw_below_drewN | apply below_drew1 | refine below_set ?_ GE169.out) | exact HB.out)⟩⟩
              case rest =>
                clear HC30
                try clear c1
                try clear p1
                try clear q1
                try clear hx1
                try clear c2
                try clear p2
                try clear c4
                try clear c4b0
                try clear p6
                try clear c16
                try clear c16b0
                try clear p16
                try clear q16
                try clear hx16
                try clear c19
                try clear c20
                try clear c21
                try clear c44
                try clear c46
                try clear c46b0
                try clear c46b1
                try clear c47
                try clear c47b0
                try clear c47b1
                try clear c48
                try clear c48b0
                try clear c48b1
                try clear hcz14_0
                try clear hcz14_1
                try clear hcz14_2
                try clear hcz14_3
                try clear hcz14_4
                try clear hcz14_5
                try clear hcz14_6
                try clear hcz26_0
                try clear hcz26_1
                try clear hcz26_2
                try clear hcz26_3
                try clear hcz26_4
                try clear hcz26_5
                try clear hcz26_6
                try clear hcz40_0
                try clear hcz40_1
                try clear hcz40_2
                try clear hcz40_3
                try clear hcz40_4
                try clear hcz40_5
                try clear hcz40_6
                try clear hcz43_0
                try clear hcz43_1
                try clear hcz43_2
                try clear hcz43_3
                try clear hcz43_4
                try clear hcz43_5
                try clear hcz43_6
                try clear hcz51_0
                try clear hcz51_1
                try clear hcz51_2
                try clear hcz51_3
                try clear hcz51_4
                try clear hcz51_5
                try clear hcz51_6
                try clear hfz14_0
                try clear hfz14_1
                try clear hfz14_2
                try clear hfz14_3
                try clear hfz14_4
                try clear hfz14_5
                try clear hfz14_6
                try clear hfz26_0
                try clear hfz26_1
                try clear hfz26_2
                try clear hfz26_3
                try clear hfz26_4
                try clear hfz26_5
                try clear hfz26_6
                try clear hfz40_0
                try clear hfz40_1
                try clear hfz40_2
                try clear hfz40_3
                try clear hfz40_4
                try clear hfz40_5
                try clear hfz40_6
                try clear hfz43_0
                try clear hfz43_1
                try clear hfz43_2
                try clear hfz43_3
                try clear hfz43_4
                try clear hfz43_5
                try clear hfz43_6
                try clear hfz51_0
                try clear hfz51_1
                try clear hfz51_2
                try clear hfz51_3
                try clear hfz51_4
                try clear hfz51_5
                try clear hfz51_6
                try clear hx167_0
                try clear hx168_0
                try clear p167
                try clear p168
                try clear q167
                try clear q168
                obtain ⟨kq, x9_29, x170002_29, rfl, HA, HJ29, HO_5, BK169, HB⟩ := hcut
                cases kq with
                | zero => exact absurd HA.out (by simp [silhouetteref12_Get.j1])
                | succ kj29 =>
                  have H := HA.out
                  clear HA
                  simp only [silhouetteref12_Get.j1] at H
                  replace H := Option.bind_eq_some_iff.mp H
                  obtain ⟨t176, A520, H⟩ := H
                  replace H : (if t176 = true then (if 0 ≤ x9_29 then (if x9_29 < (l0.length : Int) then (silhouetteref12_Get.j2 kj29 l0 x5_1 x6_1 (t170.length : Int) (wrap64 (x9_29 + 1)) (wrap64 (Int.tmod (rd l0 x6_1) 128)) (decide ((rd l0 x6_1) ≥ 128)) x170002_29 0 (wrap64 (rd l0 x9_29)) 0 0) else (none)) else (none)) else (silhouetteref12_Get.j2 kj29 l0 x5_1 x6_1 (t170.length : Int) x9_29 (wrap64 (Int.tmod (rd l0 x6_1) 128)) (decide ((rd l0 x6_1) ≥ 128)) x170002_29 0 0 0 0)) = some (r1, r2, r3) := H
                  have A52 := Aside0.mk A520
                  clear A520
                  have HC53 := Aside0.mk H
                  clear H
                  have hcz54_0 : wc.cell? ⟨gb169, 0, none⟩ = some (.int .i64 (wrap64 (Int.tmod (rd l0 x6_1) 128))) := (blk_cell BK169.out 0).trans rfl
                  have hcz54_1 : wc.cell? ⟨gb169, 1, none⟩ = some (.bool (decide ((rd l0 x6_1) ≥ 128))) := (blk_cell BK169.out 1).trans rfl
                  have hcz54_2 : wc.cell? ⟨gb169, 2, none⟩ = some (.int .u64 x170002_29) := (blk_cell BK169.out 2).trans rfl
                  have hcz54_3 : wc.cell? ⟨gb169, 3, none⟩ = some (.int .u64 0) := (blk_cell BK169.out 3).trans rfl
                  have hcz54_4 : wc.cell? ⟨gb169, 4, none⟩ = some (.int .i64 0) := (blk_cell BK169.out 4).trans rfl
                  have hcz54_5 : wc.cell? ⟨gb169, 5, none⟩ = some (.int .i64 0) := (blk_cell BK169.out 5).trans rfl
                  have hcz54_6 : wc.cell? ⟨gb169, 6, none⟩ = some (.int .i64 0) := (blk_cell BK169.out 6).trans rfl
                  have hfz54_0 := blk_frozen BK169.out 0
                  have hfz54_1 := blk_frozen BK169.out 1
                  have hfz54_2 := blk_frozen BK169.out 2
                  have hfz54_3 := blk_frozen BK169.out 3
                  have hfz54_4 := blk_frozen BK169.out 4
                  have hfz54_5 := blk_frozen BK169.out 5
                  have hfz54_6 := blk_frozen BK169.out 6
                  go_upto_if 58 with (first | ((with_reducible refine gate_callee (f := 20) rfl ?_); refine goesL_ (some 58) rfl rfl Try.func20 (by kernel_rfl) rfl #[.int .i64 (wrap64 (Int.tmod (rd l0 x6_1) 128)), .int .u8 71] rfl (by (try simp only [List.map_toArray, List.map_cons, List.map_nil]); first | done | rfl | (simp only [List.length_drop, List.length_take]; rfl)) ?_; (with_reducible refine (silhouetteref12_has.calls kj29 (wrap64 (Int.tmod (rd l0 x6_1) 128)) 71 t176 _ A52.out).mono ?_); rintro e w' ⟨rfl, ⟨nd, rfl⟩⟩; refine ⟨_, rfl, ?_⟩))
                  (try simp only [Act.put, List.setIfInBounds_toArray, List.set_cons_zero, List.set_cons_succ])
                  go_cut [9] (fun v9 wc => ∃ (kq : Nat) (x9_52 : Int) (x170004_52 : Int), v9 = .int .i64 x9_52 ∧ Aside0 (silhouetteref12_Get.j2 kq l0 x5_1 x6_1 (t170.length : Int) x9_52 (wrap64 (Int.tmod (rd l0 x6_1) 128)) (decide ((rd l0 x6_1) ≥ 128)) x170002_29 0 x170004_52 0 0 = some (r1, r2, r3)) ∧ Aside0 (kq ≤ kj29) ∧ Aside0 (Kd.R k31 31 wc w.heap.size (fun k_ => k_ ≠ gb169) u5 x5_1) ∧ Aside0 (wc.heap[gb169]? = some (.cells #[.int .i64 (wrap64 (Int.tmod (rd l0 x6_1) 128)), .bool (decide ((rd l0 x6_1) ≥ 128)), .int .u64 x170002_29, .int .u64 0, .int .i64 x170004_52, .int .i64 0, .int .i64 0] 31 (0, 0))) ∧ Aside0 (Below w.heap.size w wc))
                  case first =>
                    have H := HC53.out
                    clear HC53
                    by_cases c55 : t176 = true
                    · subst c55
                      have H1 : (if 0 ≤ x9_29 then (if x9_29 < (l0.length : Int) then (silhouetteref12_Get.j2 kj29 l0 x5_1 x6_1 (t170.length : Int) (wrap64 (x9_29 + 1)) (wrap64 (Int.tmod (rd l0 x6_1) 128)) (decide ((rd l0 x6_1) ≥ 128)) x170002_29 0 (wrap64 (rd l0 x9_29)) 0 0) else (none)) else (none)) = some (r1, r2, r3) := by rw [if_pos rfl] at H; exact H
                      clear H
                      have H := H1
                      clear H1
                      by_cases c56 : 0 ≤ x9_29
                      · rw [if_pos c56] at H
                        have c56b0 : decide (0 ≤ x9_29) = true := decide_eq_true c56
                        clear c56
                        (first | rw [c56b0] | (simp only [i64_w, i32_w]; rw [c56b0]) | skip)
                        by_cases c57 : x9_29 < (l0.length : Int)
                        · rw [if_pos c57] at H
                          have c57b0 : decide (x9_29 < (l0.length : Int)) = true := decide_eq_true c57
                          clear c57
                          have H' := Aside0.mk H
                          clear H
                          have p177 : 0 ≤ (x9_29 : Int) := of_decide_eq_true (by first | (with_reducible assumption) | assumption)
                          have q177 : x9_29 < (l0.length : Int) := of_decide_eq_true (by first | (with_reducible assumption) | assumption)
                          obtain ⟨ad177, e177, hx177_0⟩ := Kd.at_int HR0.out x9_29 p177 q177
                          obtain rfl : ad167 = ad177 := (by injection e177)
                          replace hx177_0 := (HB.out.cell (World.block_lt_of_cell? w _ hx177_0)).trans hx177_0
                          replace p177 := eq_true p177
                          replace q177 := eq_true q177
                          have hcz58_0 : wc.cell? ⟨gb169, 0, none⟩ = some (.int .i64 (wrap64 (Int.tmod (rd l0 x6_1) 128))) := (blk_cell BK169.out 0).trans rfl
                          have hcz58_1 : wc.cell? ⟨gb169, 1, none⟩ = some (.bool (decide ((rd l0 x6_1) ≥ 128))) := (blk_cell BK169.out 1).trans rfl
                          have hcz58_2 : wc.cell? ⟨gb169, 2, none⟩ = some (.int .u64 x170002_29) := (blk_cell BK169.out 2).trans rfl
                          have hcz58_3 : wc.cell? ⟨gb169, 3, none⟩ = some (.int .u64 0) := (blk_cell BK169.out 3).trans rfl
                          have hcz58_4 : wc.cell? ⟨gb169, 4, none⟩ = some (.int .i64 0) := (blk_cell BK169.out 4).trans rfl
                          have hcz58_5 : wc.cell? ⟨gb169, 5, none⟩ = some (.int .i64 0) := (blk_cell BK169.out 5).trans rfl
                          have hcz58_6 : wc.cell? ⟨gb169, 6, none⟩ = some (.int .i64 0) := (blk_cell BK169.out 6).trans rfl
                          have hfz58_0 := blk_frozen BK169.out 0
                          have hfz58_1 := blk_frozen BK169.out 1
                          have hfz58_2 := blk_frozen BK169.out 2
                          have hfz58_3 := blk_frozen BK169.out 3
                          have hfz58_4 := blk_frozen BK169.out 4
                          have hfz58_5 := blk_frozen BK169.out 5
                          have hfz58_6 := blk_frozen BK169.out 6
                          go_wp2
                          go_meet
                          case rel => exact ⟨_, (wrap64 (x9_29 + 1)), (wrap64 (rd l0 x9_29)), (by first | rfl | (simp; done) | (simp [*]; done)), H', ⟨by have := HK1.out; have := HJ29.out; first | omega | exact Nat.le_refl _⟩, ⟨by (with_reducible repeat (first | apply Kd.R_alloc | apply Kd.R_drewN | apply Kd.R_drew)); exact Kd.R_mono (Kd.R_far (p := ⟨gb169, 4, none⟩) (Kd.R_mono HO_5.out (fun k_ hk => (⟨hk, hk⟩ : _ ∧ k_ ≠ gb169))) (fun _ hk => hk.2) (.int .i64 (wrap64 (rd l0 x9_29)))) (fun _ hk => hk.1)⟩, ⟨by (with_reducible repeat (first | refine blk_drewN ?_ _ | refine blk_drew ?_ | refine blk_alloc ?_ _)); refine blk_put (cs := #[.int .i64 (wrap64 (Int.tmod (rd l0 x6_1) 128)), .bool (decide ((rd l0 x6_1) ≥ 128)), .int .u64 x170002_29, .int .u64 0, .int .i64 0, .int .i64 0, .int .i64 0]) ?_ 4 _ rfl; (with_reducible repeat (first | refine blk_drewN ?_ _ | refine blk_drew ?_ | refine blk_alloc ?_ _)); exact BK169.out⟩, ⟨by repeat (first | (with_reducible first | exact HB.out | apply below_alloc | apply pw_below_drewN | apply below_drew1 | refine below_set ?_ GE169.out) | exact HB.out)⟩⟩
                        · rw [if_neg c57] at H
                          exact absurd H (by simp)
                      · rw [if_neg c56] at H
                        exact absurd H (by simp)
                    · replace c55 := Bool.eq_false_iff.mpr c55
                      subst c55
                      have H1 : (silhouetteref12_Get.j2 kj29 l0 x5_1 x6_1 (t170.length : Int) x9_29 (wrap64 (Int.tmod (rd l0 x6_1) 128)) (decide ((rd l0 x6_1) ≥ 128)) x170002_29 0 0 0 0) = some (r1, r2, r3) := by rw [if_neg (show ¬ (false = true) by decide)] at H; exact H
                      clear H
                      have H := H1
                      clear H1
                      have H' := Aside0.mk H
                      clear H
                      go_wp2
                      go_meet
                      case rel => exact ⟨_, (x9_29), (0), (by first | rfl | (simp; done) | (simp [*]; done)), H', ⟨by have := HK1.out; have := HJ29.out; first | omega | exact Nat.le_refl _⟩, ⟨by (with_reducible repeat (first | apply Kd.R_alloc | apply Kd.R_drewN | apply Kd.R_drew)); exact HO_5.out⟩, ⟨by (with_reducible repeat (first | refine blk_drewN ?_ _ | refine blk_drew ?_ | refine blk_alloc ?_ _)); exact BK169.out⟩, ⟨by repeat (first | (with_reducible first | exact HB.out | apply below_alloc | apply pw_below_drewN | apply below_drew1 | refine below_set ?_ GE169.out) | exact HB.out)⟩⟩
                  case rest =>
                    clear HC53
                    try clear c1
                    try clear p1
                    try clear q1
                    try clear hx1
                    try clear c2
                    try clear p2
                    try clear c4
                    try clear c4b0
                    try clear c5
                    try clear p6
                    try clear c16
                    try clear c16b0
                    try clear p16
                    try clear q16
                    try clear hx16
                    try clear p17
                    try clear q17
                    try clear hx17
                    try clear c19
                    try clear c20
                    try clear c21
                    try clear c44
                    try clear c46
                    try clear c46b0
                    try clear c46b1
                    try clear c47
                    try clear c47b0
                    try clear c47b1
                    try clear c48
                    try clear c48b0
                    try clear c48b1
                    try clear c55
                    try clear c56
                    try clear c56b0
                    try clear c57
                    try clear c57b0
                    try clear hcz14_0
                    try clear hcz14_1
                    try clear hcz14_2
                    try clear hcz14_3
                    try clear hcz14_4
                    try clear hcz14_5
                    try clear hcz14_6
                    try clear hcz26_0
                    try clear hcz26_1
                    try clear hcz26_2
                    try clear hcz26_3
                    try clear hcz26_4
                    try clear hcz26_5
                    try clear hcz26_6
                    try clear hcz40_0
                    try clear hcz40_1
                    try clear hcz40_2
                    try clear hcz40_3
                    try clear hcz40_4
                    try clear hcz40_5
                    try clear hcz40_6
                    try clear hcz43_0
                    try clear hcz43_1
                    try clear hcz43_2
                    try clear hcz43_3
                    try clear hcz43_4
                    try clear hcz43_5
                    try clear hcz43_6
                    try clear hcz51_0
                    try clear hcz51_1
                    try clear hcz51_2
                    try clear hcz51_3
                    try clear hcz51_4
                    try clear hcz51_5
                    try clear hcz51_6
                    try clear hcz54_0
                    try clear hcz54_1
                    try clear hcz54_2
                    try clear hcz54_3
                    try clear hcz54_4
                    try clear hcz54_5
                    try clear hcz54_6
                    try clear hcz58_0
                    try clear hcz58_1
                    try clear hcz58_2
                    try clear hcz58_3
                    try clear hcz58_4
                    try clear hcz58_5
                    try clear hcz58_6
                    try clear hfz14_0
                    try clear hfz14_1
                    try clear hfz14_2
                    try clear hfz14_3
                    try clear hfz14_4
                    try clear hfz14_5
                    try clear hfz14_6
                    try clear hfz26_0
                    try clear hfz26_1
                    try clear hfz26_2
                    try clear hfz26_3
                    try clear hfz26_4
                    try clear hfz26_5
                    try clear hfz26_6
                    try clear hfz40_0
                    try clear hfz40_1
                    try clear hfz40_2
                    try clear hfz40_3
                    try clear hfz40_4
                    try clear hfz40_5
                    try clear hfz40_6
                    try clear hfz43_0
                    try clear hfz43_1
                    try clear hfz43_2
                    try clear hfz43_3
                    try clear hfz43_4
                    try clear hfz43_5
                    try clear hfz43_6
                    try clear hfz51_0
                    try clear hfz51_1
                    try clear hfz51_2
                    try clear hfz51_3
                    try clear hfz51_4
                    try clear hfz51_5
                    try clear hfz51_6
                    try clear hfz54_0
                    try clear hfz54_1
                    try clear hfz54_2
                    try clear hfz54_3
                    try clear hfz54_4
                    try clear hfz54_5
                    try clear hfz54_6
                    try clear hfz58_0
                    try clear hfz58_1
                    try clear hfz58_2
                    try clear hfz58_3
                    try clear hfz58_4
                    try clear hfz58_5
                    try clear hfz58_6
                    try clear hx167_0
                    try clear hx168_0
                    try clear hx177_0
                    try clear p1
                    try clear p16
                    try clear p167
                    try clear p168
                    try clear p177
                    try clear p2
                    try clear p6
                    try clear q1
                    try clear q16
                    try clear q167
                    try clear q168
                    try clear q177
                    obtain ⟨kq, x9_52, x170004_52, rfl, HA, HJ52, HO_5, BK169, HB⟩ := hcut
                    cases kq with
                    | zero => exact absurd HA.out (by simp [silhouetteref12_Get.j2])
                    | succ kj52 =>
                      have H := HA.out
                      clear HA
                      simp only [silhouetteref12_Get.j2] at H
                      replace H := Option.bind_eq_some_iff.mp H
                      obtain ⟨t178, A590, H⟩ := H
                      replace H : (if t178 = true then (if 0 ≤ x9_52 then (if x9_52 < (l0.length : Int) then (silhouetteref12_Get.j3 kj52 l0 x5_1 x6_1 (t170.length : Int) (wrap64 (x9_52 + 1)) (wrap64 (Int.tmod (rd l0 x6_1) 128)) (decide ((rd l0 x6_1) ≥ 128)) x170002_29 0 x170004_52 (wrap64 (rd l0 x9_52)) 0) else (none)) else (none)) else (silhouetteref12_Get.j3 kj52 l0 x5_1 x6_1 (t170.length : Int) x9_52 (wrap64 (Int.tmod (rd l0 x6_1) 128)) (decide ((rd l0 x6_1) ≥ 128)) x170002_29 0 x170004_52 0 0)) = some (r1, r2, r3) := H
                      have A59 := Aside0.mk A590
                      clear A590
                      have HC60 := Aside0.mk H
                      clear H
                      have hcz61_0 : wc.cell? ⟨gb169, 0, none⟩ = some (.int .i64 (wrap64 (Int.tmod (rd l0 x6_1) 128))) := (blk_cell BK169.out 0).trans rfl
                      have hcz61_1 : wc.cell? ⟨gb169, 1, none⟩ = some (.bool (decide ((rd l0 x6_1) ≥ 128))) := (blk_cell BK169.out 1).trans rfl
                      have hcz61_2 : wc.cell? ⟨gb169, 2, none⟩ = some (.int .u64 x170002_29) := (blk_cell BK169.out 2).trans rfl
                      have hcz61_3 : wc.cell? ⟨gb169, 3, none⟩ = some (.int .u64 0) := (blk_cell BK169.out 3).trans rfl
                      have hcz61_4 : wc.cell? ⟨gb169, 4, none⟩ = some (.int .i64 x170004_52) := (blk_cell BK169.out 4).trans rfl
                      have hcz61_5 : wc.cell? ⟨gb169, 5, none⟩ = some (.int .i64 0) := (blk_cell BK169.out 5).trans rfl
                      have hcz61_6 : wc.cell? ⟨gb169, 6, none⟩ = some (.int .i64 0) := (blk_cell BK169.out 6).trans rfl
                      have hfz61_0 := blk_frozen BK169.out 0
                      have hfz61_1 := blk_frozen BK169.out 1
                      have hfz61_2 := blk_frozen BK169.out 2
                      have hfz61_3 := blk_frozen BK169.out 3
                      have hfz61_4 := blk_frozen BK169.out 4
                      have hfz61_5 := blk_frozen BK169.out 5
                      have hfz61_6 := blk_frozen BK169.out 6
                      go_upto_if 69 with (first | ((with_reducible refine gate_callee (f := 20) rfl ?_); refine goesL_ (some 69) rfl rfl Try.func20 (by kernel_rfl) rfl #[.int .i64 (wrap64 (Int.tmod (rd l0 x6_1) 128)), .int .u8 73] rfl (by (try simp only [List.map_toArray, List.map_cons, List.map_nil]); first | done | rfl | (simp only [List.length_drop, List.length_take]; rfl)) ?_; (with_reducible refine (silhouetteref12_has.calls kj52 (wrap64 (Int.tmod (rd l0 x6_1) 128)) 73 t178 _ A59.out).mono ?_); rintro e w' ⟨rfl, ⟨nd, rfl⟩⟩; refine ⟨_, rfl, ?_⟩))
                      (try simp only [Act.put, List.setIfInBounds_toArray, List.set_cons_zero, List.set_cons_succ])
                      go_cut [9] (fun v9 wc => ∃ (kq : Nat) (x9_59 : Int) (x170005_59 : Int), v9 = .int .i64 x9_59 ∧ Aside0 (silhouetteref12_Get.j3 kq l0 x5_1 x6_1 (t170.length : Int) x9_59 (wrap64 (Int.tmod (rd l0 x6_1) 128)) (decide ((rd l0 x6_1) ≥ 128)) x170002_29 0 x170004_52 x170005_59 0 = some (r1, r2, r3)) ∧ Aside0 (kq ≤ kj52) ∧ Aside0 (Kd.R k31 31 wc w.heap.size (fun k_ => k_ ≠ gb169) u5 x5_1) ∧ Aside0 (wc.heap[gb169]? = some (.cells #[.int .i64 (wrap64 (Int.tmod (rd l0 x6_1) 128)), .bool (decide ((rd l0 x6_1) ≥ 128)), .int .u64 x170002_29, .int .u64 0, .int .i64 x170004_52, .int .i64 x170005_59, .int .i64 0] 31 (0, 0))) ∧ Aside0 (Below w.heap.size w wc))
                      case first =>
                        have H := HC60.out
                        clear HC60
                        by_cases c62 : t178 = true
                        · subst c62
                          have H1 : (if 0 ≤ x9_52 then (if x9_52 < (l0.length : Int) then (silhouetteref12_Get.j3 kj52 l0 x5_1 x6_1 (t170.length : Int) (wrap64 (x9_52 + 1)) (wrap64 (Int.tmod (rd l0 x6_1) 128)) (decide ((rd l0 x6_1) ≥ 128)) x170002_29 0 x170004_52 (wrap64 (rd l0 x9_52)) 0) else (none)) else (none)) = some (r1, r2, r3) := by rw [if_pos rfl] at H; exact H
                          clear H
                          have H := H1
                          clear H1
                          by_cases c63 : 0 ≤ x9_52
                          · rw [if_pos c63] at H
                            have c63b0 : decide (0 ≤ x9_52) = true := decide_eq_true c63
                            clear c63
                            (first | rw [c63b0] | (simp only [i64_w, i32_w]; rw [c63b0]) | skip)
                            by_cases c64 : x9_52 < (l0.length : Int)
                            · rw [if_pos c64] at H
                              have c64b0 : decide (x9_52 < (l0.length : Int)) = true := decide_eq_true c64
                              clear c64
                              have H' := Aside0.mk H
                              clear H
                              have p179 : 0 ≤ (x9_52 : Int) := of_decide_eq_true (by first | (with_reducible assumption) | assumption)
                              have q179 : x9_52 < (l0.length : Int) := of_decide_eq_true (by first | (with_reducible assumption) | assumption)
                              obtain ⟨ad179, e179, hx179_0⟩ := Kd.at_int HR0.out x9_52 p179 q179
                              obtain rfl : ad167 = ad179 := (by injection e179)
                              replace hx179_0 := (HB.out.cell (World.block_lt_of_cell? w _ hx179_0)).trans hx179_0
                              replace p179 := eq_true p179
                              replace q179 := eq_true q179
                              have hcz65_0 : wc.cell? ⟨gb169, 0, none⟩ = some (.int .i64 (wrap64 (Int.tmod (rd l0 x6_1) 128))) := (blk_cell BK169.out 0).trans rfl
                              have hcz65_1 : wc.cell? ⟨gb169, 1, none⟩ = some (.bool (decide ((rd l0 x6_1) ≥ 128))) := (blk_cell BK169.out 1).trans rfl
                              have hcz65_2 : wc.cell? ⟨gb169, 2, none⟩ = some (.int .u64 x170002_29) := (blk_cell BK169.out 2).trans rfl
                              have hcz65_3 : wc.cell? ⟨gb169, 3, none⟩ = some (.int .u64 0) := (blk_cell BK169.out 3).trans rfl
                              have hcz65_4 : wc.cell? ⟨gb169, 4, none⟩ = some (.int .i64 x170004_52) := (blk_cell BK169.out 4).trans rfl
                              have hcz65_5 : wc.cell? ⟨gb169, 5, none⟩ = some (.int .i64 0) := (blk_cell BK169.out 5).trans rfl
                              have hcz65_6 : wc.cell? ⟨gb169, 6, none⟩ = some (.int .i64 0) := (blk_cell BK169.out 6).trans rfl
                              have hfz65_0 := blk_frozen BK169.out 0
                              have hfz65_1 := blk_frozen BK169.out 1
                              have hfz65_2 := blk_frozen BK169.out 2
                              have hfz65_3 := blk_frozen BK169.out 3
                              have hfz65_4 := blk_frozen BK169.out 4
                              have hfz65_5 := blk_frozen BK169.out 5
                              have hfz65_6 := blk_frozen BK169.out 6
                              go_wp2
                              go_meet
                              case rel => exact ⟨_, (wrap64 (x9_52 + 1)), (wrap64 (rd l0 x9_52)), (by first | rfl | (simp; done) | (simp [*]; done)), H', ⟨by have := HK1.out; have := HJ29.out; have := HJ52.out; first | omega | exact Nat.le_refl _⟩, ⟨by (with_reducible repeat (first | apply Kd.R_alloc | apply Kd.R_drewN | apply Kd.R_drew)); exact Kd.R_mono (Kd.R_far (p := ⟨gb169, 5, none⟩) (Kd.R_mono HO_5.out (fun k_ hk => (⟨hk, hk⟩ : _ ∧ k_ ≠ gb169))) (fun _ hk => hk.2) (.int .i64 (wrap64 (rd l0 x9_52)))) (fun _ hk => hk.1)⟩, ⟨by (with_reducible repeat (first | refine blk_drewN ?_ _ | refine blk_drew ?_ | refine blk_alloc ?_ _)); refine blk_put (cs := #[.int .i64 (wrap64 (Int.tmod (rd l0 x6_1) 128)), .bool (decide ((rd l0 x6_1) ≥ 128)), .int .u64 x170002_29, .int .u64 0, .int .i64 x170004_52, .int .i64 0, .int .i64 0]) ?_ 5 _ rfl; (with_reducible repeat (first | refine blk_drewN ?_ _ | refine blk_drew ?_ | refine blk_alloc ?_ _)); exact BK169.out⟩, ⟨by repeat (first | (with_reducible first | exact HB.out | apply below_alloc | apply pw_below_drewN | apply below_drew1 | refine below_set ?_ GE169.out) | exact HB.out)⟩⟩
                            · rw [if_neg c64] at H
                              exact absurd H (by simp)
                          · rw [if_neg c63] at H
                            exact absurd H (by simp)
                        · replace c62 := Bool.eq_false_iff.mpr c62
                          subst c62
                          have H1 : (silhouetteref12_Get.j3 kj52 l0 x5_1 x6_1 (t170.length : Int) x9_52 (wrap64 (Int.tmod (rd l0 x6_1) 128)) (decide ((rd l0 x6_1) ≥ 128)) x170002_29 0 x170004_52 0 0) = some (r1, r2, r3) := by rw [if_neg (show ¬ (false = true) by decide)] at H; exact H
                          clear H
                          have H := H1
                          clear H1
                          have H' := Aside0.mk H
                          clear H
                          go_wp2
                          go_meet
                          case rel => exact ⟨_, (x9_52), (0), (by first | rfl | (simp; done) | (simp [*]; done)), H', ⟨by have := HK1.out; have := HJ29.out; have := HJ52.out; first | omega | exact Nat.le_refl _⟩, ⟨by (with_reducible repeat (first | apply Kd.R_alloc | apply Kd.R_drewN | apply Kd.R_drew)); exact HO_5.out⟩, ⟨by (with_reducible repeat (first | refine blk_drewN ?_ _ | refine blk_drew ?_ | refine blk_alloc ?_ _)); exact BK169.out⟩, ⟨by repeat (first | (with_reducible first | exact HB.out | apply below_alloc | apply pw_below_drewN | apply below_drew1 | refine below_set ?_ GE169.out) | exact HB.out)⟩⟩
                      case rest =>
                        clear HC60
                        try clear c1
                        try clear p1
                        try clear q1
                        try clear hx1
                        try clear c2
                        try clear p2
                        try clear c4
                        try clear c4b0
                        try clear c5
                        try clear c6
                        try clear p6
                        try clear c16
                        try clear c16b0
                        try clear p16
                        try clear q16
                        try clear hx16
                        try clear p17
                        try clear q17
                        try clear hx17
                        try clear c19
                        try clear c20
                        try clear c21
                        try clear c44
                        try clear c46
                        try clear c46b0
                        try clear c46b1
                        try clear c47
                        try clear c47b0
                        try clear c47b1
                        try clear c48
                        try clear c48b0
                        try clear c48b1
                        try clear c55
                        try clear c56
                        try clear c56b0
                        try clear c57
                        try clear c57b0
                        try clear c62
                        try clear c63
                        try clear c63b0
                        try clear c64
                        try clear c64b0
                        try clear p64
                        try clear hcz14_0
                        try clear hcz14_1
                        try clear hcz14_2
                        try clear hcz14_3
                        try clear hcz14_4
                        try clear hcz14_5
                        try clear hcz14_6
                        try clear hcz26_0
                        try clear hcz26_1
                        try clear hcz26_2
                        try clear hcz26_3
                        try clear hcz26_4
                        try clear hcz26_5
                        try clear hcz26_6
                        try clear hcz40_0
                        try clear hcz40_1
                        try clear hcz40_2
                        try clear hcz40_3
                        try clear hcz40_4
                        try clear hcz40_5
                        try clear hcz40_6
                        try clear hcz43_0
                        try clear hcz43_1
                        try clear hcz43_2
                        try clear hcz43_3
                        try clear hcz43_4
                        try clear hcz43_5
                        try clear hcz43_6
                        try clear hcz51_0
                        try clear hcz51_1
                        try clear hcz51_2
                        try clear hcz51_3
                        try clear hcz51_4
                        try clear hcz51_5
                        try clear hcz51_6
                        try clear hcz54_0
                        try clear hcz54_1
                        try clear hcz54_2
                        try clear hcz54_3
                        try clear hcz54_4
                        try clear hcz54_5
                        try clear hcz54_6
                        try clear hcz58_0
                        try clear hcz58_1
                        try clear hcz58_2
                        try clear hcz58_3
                        try clear hcz58_4
                        try clear hcz58_5
                        try clear hcz58_6
                        try clear hcz61_0
                        try clear hcz61_1
                        try clear hcz61_2
                        try clear hcz61_3
                        try clear hcz61_4
                        try clear hcz61_5
                        try clear hcz61_6
                        try clear hcz65_0
                        try clear hcz65_1
                        try clear hcz65_2
                        try clear hcz65_3
                        try clear hcz65_4
                        try clear hcz65_5
                        try clear hcz65_6
                        try clear hfz14_0
                        try clear hfz14_1
                        try clear hfz14_2
                        try clear hfz14_3
                        try clear hfz14_4
                        try clear hfz14_5
                        try clear hfz14_6
                        try clear hfz26_0
                        try clear hfz26_1
                        try clear hfz26_2
                        try clear hfz26_3
                        try clear hfz26_4
                        try clear hfz26_5
                        try clear hfz26_6
                        try clear hfz40_0
                        try clear hfz40_1
                        try clear hfz40_2
                        try clear hfz40_3
                        try clear hfz40_4
                        try clear hfz40_5
                        try clear hfz40_6
                        try clear hfz43_0
                        try clear hfz43_1
                        try clear hfz43_2
                        try clear hfz43_3
                        try clear hfz43_4
                        try clear hfz43_5
                        try clear hfz43_6
                        try clear hfz51_0
                        try clear hfz51_1
                        try clear hfz51_2
                        try clear hfz51_3
                        try clear hfz51_4
                        try clear hfz51_5
                        try clear hfz51_6
                        try clear hfz54_0
                        try clear hfz54_1
                        try clear hfz54_2
                        try clear hfz54_3
                        try clear hfz54_4
                        try clear hfz54_5
                        try clear hfz54_6
                        try clear hfz58_0
                        try clear hfz58_1
                        try clear hfz58_2
                        try clear hfz58_3
                        try clear hfz58_4
                        try clear hfz58_5
                        try clear hfz58_6
                        try clear hfz61_0
                        try clear hfz61_1
                        try clear hfz61_2
                        try clear hfz61_3
                        try clear hfz61_4
                        try clear hfz61_5
                        try clear hfz61_6
                        try clear hfz65_0
                        try clear hfz65_1
                        try clear hfz65_2
                        try clear hfz65_3
                        try clear hfz65_4
                        try clear hfz65_5
                        try clear hfz65_6
                        try clear hx167_0
                        try clear hx168_0
                        try clear hx177_0
                        try clear hx179_0
                        try clear p1
                        try clear p16
                        try clear p167
                        try clear p168
                        try clear p17
                        try clear p177
                        try clear p179
                        try clear p2
                        try clear p6
                        try clear q1
                        try clear q16
                        try clear q167
                        try clear q168
                        try clear q17
                        try clear q177
                        try clear q179
                        obtain ⟨kq, x9_59, x170005_59, rfl, HA, HJ59, HO_5, BK169, HB⟩ := hcut
                        cases kq with
                        | zero => exact absurd HA.out (by simp [silhouetteref12_Get.j3])
                        | succ kj59 =>
                          have H := HA.out
                          clear HA
                          simp only [silhouetteref12_Get.j3] at H
                          replace H := Option.bind_eq_some_iff.mp H
                          obtain ⟨t180, A660, H⟩ := H
                          replace H : (if t180 = true then (if 0 ≤ x9_59 then (if x9_59 ≤ (wrap64 (x9_59 + 8)) then (if (wrap64 (x9_59 + 8)) ≤ (l0.length : Int) then ((silhouetteref12_number.f kj59 ((l0.take ((wrap64 (x9_59 + 8)) : Int).toNat).drop (x9_59 : Int).toNat)).bind fun t182 => (silhouetteref12_Get.j4 kj59 l0 x5_1 x6_1 (t170.length : Int) x9_59 (wrap64 (Int.tmod (rd l0 x6_1) 128)) (decide ((rd l0 x6_1) ≥ 128)) x170002_29 t182 x170004_52 x170005_59 0)) else (none)) else (none)) else (none)) else (silhouetteref12_Get.j4 kj59 l0 x5_1 x6_1 (t170.length : Int) x9_59 (wrap64 (Int.tmod (rd l0 x6_1) 128)) (decide ((rd l0 x6_1) ≥ 128)) x170002_29 0 x170004_52 x170005_59 0)) = some (r1, r2, r3) := H
                          have A66 := Aside0.mk A660
                          clear A660
                          have HC67 := Aside0.mk H
                          clear H
                          have hcz68_0 : wc.cell? ⟨gb169, 0, none⟩ = some (.int .i64 (wrap64 (Int.tmod (rd l0 x6_1) 128))) := (blk_cell BK169.out 0).trans rfl
                          have hcz68_1 : wc.cell? ⟨gb169, 1, none⟩ = some (.bool (decide ((rd l0 x6_1) ≥ 128))) := (blk_cell BK169.out 1).trans rfl
                          have hcz68_2 : wc.cell? ⟨gb169, 2, none⟩ = some (.int .u64 x170002_29) := (blk_cell BK169.out 2).trans rfl
                          have hcz68_3 : wc.cell? ⟨gb169, 3, none⟩ = some (.int .u64 0) := (blk_cell BK169.out 3).trans rfl
                          have hcz68_4 : wc.cell? ⟨gb169, 4, none⟩ = some (.int .i64 x170004_52) := (blk_cell BK169.out 4).trans rfl
                          have hcz68_5 : wc.cell? ⟨gb169, 5, none⟩ = some (.int .i64 x170005_59) := (blk_cell BK169.out 5).trans rfl
                          have hcz68_6 : wc.cell? ⟨gb169, 6, none⟩ = some (.int .i64 0) := (blk_cell BK169.out 6).trans rfl
                          have hfz68_0 := blk_frozen BK169.out 0
                          have hfz68_1 := blk_frozen BK169.out 1
                          have hfz68_2 := blk_frozen BK169.out 2
                          have hfz68_3 := blk_frozen BK169.out 3
                          have hfz68_4 := blk_frozen BK169.out 4
                          have hfz68_5 := blk_frozen BK169.out 5
                          have hfz68_6 := blk_frozen BK169.out 6
                          go_upto_if 80 with (first | ((with_reducible refine gate_callee (f := 20) rfl ?_); refine goesL_ (some 80) rfl rfl Try.func20 (by kernel_rfl) rfl #[.int .i64 (wrap64 (Int.tmod (rd l0 x6_1) 128)), .int .u8 86] rfl (by (try simp only [List.map_toArray, List.map_cons, List.map_nil]); first | done | rfl | (simp only [List.length_drop, List.length_take]; rfl)) ?_; (with_reducible refine (silhouetteref12_has.calls kj59 (wrap64 (Int.tmod (rd l0 x6_1) 128)) 86 t180 _ A66.out).mono ?_); rintro e w' ⟨rfl, ⟨nd, rfl⟩⟩; refine ⟨_, rfl, ?_⟩))
                          (try simp only [Act.put, List.setIfInBounds_toArray, List.set_cons_zero, List.set_cons_succ])
                          go_cut [] (fun wc => ∃ (kq : Nat) (x170003_66 : Int), Aside0 (silhouetteref12_Get.j4 kq l0 x5_1 x6_1 (t170.length : Int) x9_59 (wrap64 (Int.tmod (rd l0 x6_1) 128)) (decide ((rd l0 x6_1) ≥ 128)) x170002_29 x170003_66 x170004_52 x170005_59 0 = some (r1, r2, r3)) ∧ Aside0 (kq ≤ kj59) ∧ Aside0 (Kd.R k31 31 wc w.heap.size (fun k_ => k_ ≠ gb169) u5 x5_1) ∧ Aside0 (wc.heap[gb169]? = some (.cells #[.int .i64 (wrap64 (Int.tmod (rd l0 x6_1) 128)), .bool (decide ((rd l0 x6_1) ≥ 128)), .int .u64 x170002_29, .int .u64 x170003_66, .int .i64 x170004_52, .int .i64 x170005_59, .int .i64 0] 31 (0, 0))) ∧ Aside0 (Below w.heap.size w wc))
                          case first =>
                            have H := HC67.out
                            clear HC67
                            by_cases c69 : t180 = true
                            · subst c69
                              have H1 : (if 0 ≤ x9_59 then (if x9_59 ≤ (wrap64 (x9_59 + 8)) then (if (wrap64 (x9_59 + 8)) ≤ (l0.length : Int) then ((silhouetteref12_number.f kj59 ((l0.take ((wrap64 (x9_59 + 8)) : Int).toNat).drop (x9_59 : Int).toNat)).bind fun t182 => (silhouetteref12_Get.j4 kj59 l0 x5_1 x6_1 (t170.length : Int) x9_59 (wrap64 (Int.tmod (rd l0 x6_1) 128)) (decide ((rd l0 x6_1) ≥ 128)) x170002_29 t182 x170004_52 x170005_59 0)) else (none)) else (none)) else (none)) = some (r1, r2, r3) := by rw [if_pos rfl] at H; exact H
                              clear H
                              have H := H1
                              clear H1
                              by_cases c70 : 0 ≤ x9_59
                              · rw [if_pos c70] at H
                                have c70b0 := eq_true c70
                                have c70b1 : decide (0 ≤ x9_59) = true := decide_eq_true c70
                                clear c70
                                by_cases c71 : x9_59 ≤ (wrap64 (x9_59 + 8))
                                · rw [if_pos c71] at H
                                  have c71b0 := eq_true c71
                                  have c71b1 : decide (x9_59 ≤ (wrap64 (x9_59 + 8))) = true := decide_eq_true c71
                                  by_cases c72 : (wrap64 (x9_59 + 8)) ≤ (l0.length : Int)
                                  · rw [if_pos c72] at H
                                    have c72b0 := eq_true c72
                                    have c72b1 : decide ((wrap64 (x9_59 + 8)) ≤ (l0.length : Int)) = true := decide_eq_true c72
                                    replace H := Option.bind_eq_some_iff.mp H
                                    obtain ⟨t182, A730, H⟩ := H
                                    replace H : (silhouetteref12_Get.j4 kj59 l0 x5_1 x6_1 (t170.length : Int) x9_59 (wrap64 (Int.tmod (rd l0 x6_1) 128)) (decide ((rd l0 x6_1) ≥ 128)) x170002_29 t182 x170004_52 x170005_59 0) = some (r1, r2, r3) := H
                                    have A73 := Aside0.mk A730
                                    clear A730
                                    have H' := Aside0.mk H
                                    clear H
                                    obtain ⟨i074, hi074, _, hsz74, _⟩ := info_parts info5
                                    obtain ⟨A74, hcut74, hA74, hC74⟩ := print_mid_of (P := Try.prog) (Value.int .u8) 0 23 5 .i64 .i64 Try.underlying23 hi074 hsz74 (some ad167) c0 l0 x9_59 (wrap64 (x9_59 + 8)) (of_decide_eq_true (by first | (with_reducible assumption) | assumption)) (by first | omega | exact of_decide_eq_true (by first | (with_reducible assumption) | assumption)) (of_decide_eq_true (by first | (with_reducible assumption) | assumption)) HC0.out
                                    have HR181 := Aside0.mk (Kd.C_of_reads (h1 := fun _ => rfl) (hA74 _ (Kd.reads_of_C HR0.out)))
                                    have HC181 := Aside0.mk hC74
                                    clear hA74 hC74 hi074 hsz74
                                    go_wp2_with (first | ((with_reducible refine gate_callee (f := 21) rfl ?_); refine goesL_ (some 86) rfl rfl Try.func21 (by kernel_rfl) rfl #[.slice A74 ((l0.take ((wrap64 (x9_59 + 8)) : Int).toNat).drop (x9_59 : Int).toNat).length (c0 - x9_59.toNat)] rfl (by (try simp only [List.map_toArray, List.map_cons, List.map_nil]); first | done | (rw [show ((l0.take ((wrap64 (x9_59 + 8)) : Int).toNat).drop (x9_59 : Int).toNat).length = ((wrap64 (x9_59 + 8)).toNat - x9_59.toNat) from (by rw [List.length_drop, List.length_take]; have h_ : ((wrap64 (x9_59 + 8)) : Int) ≤ (l0.length : Int) := of_decide_eq_true (by first | (with_reducible assumption) | assumption); omega)] <;> rfl) | rfl | (simp only [List.length_drop, List.length_take]; rfl)) ?_; (with_reducible refine (silhouetteref12_number.calls kj59 _ _ ((l0.take ((wrap64 (x9_59 + 8)) : Int).toNat).drop (x9_59 : Int).toNat) t182 _ ?side1 ?side2 A73.out).mono ?_); (case side1 => repeat (first | exact (Kd.C_below HR181.out HB.out) | (with_reducible refine Kd.C_alloc ?_ _) | (with_reducible refine Kd.C_drewN ?_ _) | (with_reducible refine Kd.C_drew ?_))); (case side2 => exact HC181.out); rintro e w' ⟨rfl, ⟨nd, rfl⟩⟩; refine ⟨_, rfl, ?_⟩; (try (rw [drewN_self wc]; generalize hq_ : World.drewN wc _ = wc; have n0_ : Aside0 (Kd.R k31 31 wc w.heap.size (fun k_ => k_ ≠ gb169) u5 x5_1) := ⟨by rw [← hq_]; exact (by (with_reducible repeat (first | apply Kd.R_alloc | apply Kd.R_drewN | apply Kd.R_drew)); exact HO_5.out)⟩; have n1_ : Aside0 (wc.heap[gb169]? = some (.cells #[.int .i64 (wrap64 (Int.tmod (rd l0 x6_1) 128)), .bool (decide ((rd l0 x6_1) ≥ 128)), .int .u64 x170002_29, .int .u64 0, .int .i64 x170004_52, .int .i64 x170005_59, .int .i64 0] 31 (0, 0))) := ⟨by rw [← hq_]; exact (by (with_reducible repeat (first | refine blk_drewN ?_ _ | refine blk_drew ?_ | refine blk_alloc ?_ _)); exact BK169.out)⟩; have n2_ : Aside0 (Below w.heap.size w wc) := ⟨by rw [← hq_]; exact (by repeat (first | (with_reducible first | exact HB.out | apply below_alloc | apply pw_below_drewN | apply below_drew1 | refine below_set ?_ GE169.out) | exact HB.out))⟩; clear HO_5 BK169 HB hq_; have HO_5 := n0_; have BK169 := n1_; have HB := n2_; clear n0_ n1_ n2_)); have hcz75_0 : wc.cell? ⟨gb169, 0, none⟩ = some (.int .i64 (wrap64 (Int.tmod (rd l0 x6_1) 128))) := (blk_cell BK169.out 0).trans rfl; have hcz75_1 : wc.cell? ⟨gb169, 1, none⟩ = some (.bool (decide ((rd l0 x6_1) ≥ 128))) := (blk_cell BK169.out 1).trans rfl; have hcz75_2 : wc.cell? ⟨gb169, 2, none⟩ = some (.int .u64 x170002_29) := (blk_cell BK169.out 2).trans rfl; have hcz75_3 : wc.cell? ⟨gb169, 3, none⟩ = some (.int .u64 0) := (blk_cell BK169.out 3).trans rfl; have hcz75_4 : wc.cell? ⟨gb169, 4, none⟩ = some (.int .i64 x170004_52) := (blk_cell BK169.out 4).trans rfl; have hcz75_5 : wc.cell? ⟨gb169, 5, none⟩ = some (.int .i64 x170005_59) := (blk_cell BK169.out 5).trans rfl; have hcz75_6 : wc.cell? ⟨gb169, 6, none⟩ = some (.int .i64 0) := (blk_cell BK169.out 6).trans rfl; have hfz75_0 := blk_frozen BK169.out 0; have hfz75_1 := blk_frozen BK169.out 1; have hfz75_2 := blk_frozen BK169.out 2; have hfz75_3 := blk_frozen BK169.out 3; have hfz75_4 := blk_frozen BK169.out 4; have hfz75_5 := blk_frozen BK169.out 5; have hfz75_6 := blk_frozen BK169.out 6))
                                    go_meet
                                    case rel => exact ⟨_, (t182), H', ⟨by have := HK1.out; have := HJ29.out; have := HJ52.out; have := HJ59.out; first | omega | exact Nat.le_refl _⟩, ⟨by (with_reducible repeat (first | apply Kd.R_alloc | apply Kd.R_drewN | apply Kd.R_drew)); exact Kd.R_mono (Kd.R_far (p := ⟨gb169, 3, none⟩) (Kd.R_mono HO_5.out (fun k_ hk => (⟨hk, hk⟩ : _ ∧ k_ ≠ gb169))) (fun _ hk => hk.2) (.int .u64 t182)) (fun _ hk => hk.1)⟩, ⟨by (with_reducible repeat (first | refine blk_drewN ?_ _ | refine blk_drew ?_ | refine blk_alloc ?_ _)); refine blk_put (cs := #[.int .i64 (wrap64 (Int.tmod (rd l0 x6_1) 128)), .bool (decide ((rd l0 x6_1) ≥ 128)), .int .u64 x170002_29, .int .u64 0, .int .i64 x170004_52, .int .i64 x170005_59, .int .i64 0]) ?_ 3 _ rfl; (with_reducible repeat (first | refine blk_drewN ?_ _ | refine blk_drew ?_ | refine blk_alloc ?_ _)); exact BK169.out⟩, ⟨by repeat (first | (with_reducible first | exact HB.out | apply below_alloc | apply pw_below_drewN | apply below_drew1 | refine below_set ?_ GE169.out) | exact HB.out)⟩⟩
                                  · rw [if_neg c72] at H
                                    exact absurd H (by simp)
                                · rw [if_neg c71] at H
                                  exact absurd H (by simp)
                              · rw [if_neg c70] at H
                                exact absurd H (by simp)
                            · replace c69 := Bool.eq_false_iff.mpr c69
                              subst c69
                              have H1 : (silhouetteref12_Get.j4 kj59 l0 x5_1 x6_1 (t170.length : Int) x9_59 (wrap64 (Int.tmod (rd l0 x6_1) 128)) (decide ((rd l0 x6_1) ≥ 128)) x170002_29 0 x170004_52 x170005_59 0) = some (r1, r2, r3) := by rw [if_neg (show ¬ (false = true) by decide)] at H; exact H
                              clear H
                              have H := H1
                              clear H1
                              have H' := Aside0.mk H
                              clear H
                              go_wp2
                              go_meet
                              case rel => exact ⟨_, (0), H', ⟨by have := HK1.out; have := HJ29.out; have := HJ52.out; have := HJ59.out; first | omega | exact Nat.le_refl _⟩, ⟨by (with_reducible repeat (first | apply Kd.R_alloc | apply Kd.R_drewN | apply Kd.R_drew)); exact HO_5.out⟩, ⟨by (with_reducible repeat (first | refine blk_drewN ?_ _ | refine blk_drew ?_ | refine blk_alloc ?_ _)); exact BK169.out⟩, ⟨by repeat (first | (with_reducible first | exact HB.out | apply below_alloc | apply pw_below_drewN | apply below_drew1 | refine below_set ?_ GE169.out) | exact HB.out)⟩⟩
                          case rest =>
                            clear HC67
                            try clear c1
                            try clear p1
                            try clear q1
                            try clear hx1
                            try clear c2
                            try clear p2
                            try clear c4
                            try clear c4b0
                            try clear c5
                            try clear c6
                            try clear p6
                            try clear c7
                            try clear c16
                            try clear c16b0
                            try clear p16
                            try clear q16
                            try clear hx16
                            try clear p17
                            try clear q17
                            try clear hx17
                            try clear c19
                            try clear c20
                            try clear c21
                            try clear c44
                            try clear c46
                            try clear c46b0
                            try clear c46b1
                            try clear c47
                            try clear c47b0
                            try clear c47b1
                            try clear c48
                            try clear c48b0
                            try clear c48b1
                            try clear c55
                            try clear c56
                            try clear c56b0
                            try clear c57
                            try clear c57b0
                            try clear c62
                            try clear c63
                            try clear c63b0
                            try clear c64
                            try clear c64b0
                            try clear p64
                            try clear c69
                            try clear c70
                            try clear c70b0
                            try clear c70b1
                            try clear c71
                            try clear c71b0
                            try clear c71b1
                            try clear c72
                            try clear c72b0
                            try clear c72b1
                            try clear hcz14_0
                            try clear hcz14_1
                            try clear hcz14_2
                            try clear hcz14_3
                            try clear hcz14_4
                            try clear hcz14_5
                            try clear hcz14_6
                            try clear hcz26_0
                            try clear hcz26_1
                            try clear hcz26_2
                            try clear hcz26_3
                            try clear hcz26_4
                            try clear hcz26_5
                            try clear hcz26_6
                            try clear hcz40_0
                            try clear hcz40_1
                            try clear hcz40_2
                            try clear hcz40_3
                            try clear hcz40_4
                            try clear hcz40_5
                            try clear hcz40_6
                            try clear hcz43_0
                            try clear hcz43_1
                            try clear hcz43_2
                            try clear hcz43_3
                            try clear hcz43_4
                            try clear hcz43_5
                            try clear hcz43_6
                            try clear hcz51_0
                            try clear hcz51_1
                            try clear hcz51_2
                            try clear hcz51_3
                            try clear hcz51_4
                            try clear hcz51_5
                            try clear hcz51_6
                            try clear hcz54_0
                            try clear hcz54_1
                            try clear hcz54_2
                            try clear hcz54_3
                            try clear hcz54_4
                            try clear hcz54_5
                            try clear hcz54_6
                            try clear hcz58_0
                            try clear hcz58_1
                            try clear hcz58_2
                            try clear hcz58_3
                            try clear hcz58_4
                            try clear hcz58_5
                            try clear hcz58_6
                            try clear hcz61_0
                            try clear hcz61_1
                            try clear hcz61_2
                            try clear hcz61_3
                            try clear hcz61_4
                            try clear hcz61_5
                            try clear hcz61_6
                            try clear hcz65_0
                            try clear hcz65_1
                            try clear hcz65_2
                            try clear hcz65_3
                            try clear hcz65_4
                            try clear hcz65_5
                            try clear hcz65_6
                            try clear hcz68_0
                            try clear hcz68_1
                            try clear hcz68_2
                            try clear hcz68_3
                            try clear hcz68_4
                            try clear hcz68_5
                            try clear hcz68_6
                            try clear hcz75_0
                            try clear hcz75_1
                            try clear hcz75_2
                            try clear hcz75_3
                            try clear hcz75_4
                            try clear hcz75_5
                            try clear hcz75_6
                            try clear hfz14_0
                            try clear hfz14_1
                            try clear hfz14_2
                            try clear hfz14_3
                            try clear hfz14_4
                            try clear hfz14_5
                            try clear hfz14_6
                            try clear hfz26_0
                            try clear hfz26_1
                            try clear hfz26_2
                            try clear hfz26_3
                            try clear hfz26_4
                            try clear hfz26_5
                            try clear hfz26_6
                            try clear hfz40_0
                            try clear hfz40_1
                            try clear hfz40_2
                            try clear hfz40_3
                            try clear hfz40_4
                            try clear hfz40_5
                            try clear hfz40_6
                            try clear hfz43_0
                            try clear hfz43_1
                            try clear hfz43_2
                            try clear hfz43_3
                            try clear hfz43_4
                            try clear hfz43_5
                            try clear hfz43_6
                            try clear hfz51_0
                            try clear hfz51_1
                            try clear hfz51_2
                            try clear hfz51_3
                            try clear hfz51_4
                            try clear hfz51_5
                            try clear hfz51_6
                            try clear hfz54_0
                            try clear hfz54_1
                            try clear hfz54_2
                            try clear hfz54_3
                            try clear hfz54_4
                            try clear hfz54_5
                            try clear hfz54_6
                            try clear hfz58_0
                            try clear hfz58_1
                            try clear hfz58_2
                            try clear hfz58_3
                            try clear hfz58_4
                            try clear hfz58_5
                            try clear hfz58_6
                            try clear hfz61_0
                            try clear hfz61_1
                            try clear hfz61_2
                            try clear hfz61_3
                            try clear hfz61_4
                            try clear hfz61_5
                            try clear hfz61_6
                            try clear hfz65_0
                            try clear hfz65_1
                            try clear hfz65_2
                            try clear hfz65_3
                            try clear hfz65_4
                            try clear hfz65_5
                            try clear hfz65_6
                            try clear hfz68_0
                            try clear hfz68_1
                            try clear hfz68_2
                            try clear hfz68_3
                            try clear hfz68_4
                            try clear hfz68_5
                            try clear hfz68_6
                            try clear hfz75_0
                            try clear hfz75_1
                            try clear hfz75_2
                            try clear hfz75_3
                            try clear hfz75_4
                            try clear hfz75_5
                            try clear hfz75_6
                            try clear hx167_0
                            try clear hx168_0
                            try clear hx177_0
                            try clear hx179_0
                            try clear p1
                            try clear p16
                            try clear p167
                            try clear p168
                            try clear p17
                            try clear p177
                            try clear p179
                            try clear p2
                            try clear p6
                            try clear p64
                            try clear q1
                            try clear q16
                            try clear q167
                            try clear q168
                            try clear q17
                            try clear q177
                            try clear q179
                            obtain ⟨kq, x170003_66, HA, HJ66, HO_5, BK169, HB⟩ := hcut
                            cases kq with
                            | zero => exact absurd HA.out (by simp [silhouetteref12_Get.j4])
                            | succ kj66 =>
                              have H := HA.out
                              clear HA
                              simp only [silhouetteref12_Get.j4] at H
                              replace H := Option.bind_eq_some_iff.mp H
                              obtain ⟨t183, A760, H⟩ := H
                              replace H : (if t183 = true then (if 0 ≤ x9_59 then (if x9_59 < (l0.length : Int) then ((silhouetteref12_Right.f (wrap64 (Int.tmod (rd l0 x6_1) 128)) (decide ((rd l0 x6_1) ≥ 128)) x170002_29 x170003_66 x170004_52 x170005_59 (wrap64 (rd l0 x9_59))).bind fun t185 => (if t185 = true then (if x5_1.length < 2513169434916 then (silhouetteref12_Get.l0 kj66 l0 (x5_1 ++ [(⟨(wrap64 (Int.tmod (rd l0 x6_1) 128)), (decide ((rd l0 x6_1) ≥ 128)), x170002_29, x170003_66, x170004_52, x170005_59, wrap64 (rd l0 x9_59)⟩ : S31)]) (wrap64 (x6_1 + (t170.length : Int)))) else (none)) else (some (x5_1, x6_1, 12)))) else (none)) else (none)) else ((silhouetteref12_Right.f (wrap64 (Int.tmod (rd l0 x6_1) 128)) (decide ((rd l0 x6_1) ≥ 128)) x170002_29 x170003_66 x170004_52 x170005_59 0).bind fun t189 => (if t189 = true then (if x5_1.length < 2513169434916 then (silhouetteref12_Get.l0 kj66 l0 (x5_1 ++ [(⟨(wrap64 (Int.tmod (rd l0 x6_1) 128)), (decide ((rd l0 x6_1) ≥ 128)), x170002_29, x170003_66, x170004_52, x170005_59, 0⟩ : S31)]) (wrap64 (x6_1 + (t170.length : Int)))) else (none)) else (some (x5_1, x6_1, 12))))) = some (r1, r2, r3) := H
                              have A76 := Aside0.mk A760
                              clear A760
                              by_cases c77 : t183 = true
                              · subst c77
                                have H1 : (if 0 ≤ x9_59 then (if x9_59 < (l0.length : Int) then ((silhouetteref12_Right.f (wrap64 (Int.tmod (rd l0 x6_1) 128)) (decide ((rd l0 x6_1) ≥ 128)) x170002_29 x170003_66 x170004_52 x170005_59 (wrap64 (rd l0 x9_59))).bind fun t185 => (if t185 = true then (if x5_1.length < 2513169434916 then (silhouetteref12_Get.l0 kj66 l0 (x5_1 ++ [(⟨(wrap64 (Int.tmod (rd l0 x6_1) 128)), (decide ((rd l0 x6_1) ≥ 128)), x170002_29, x170003_66, x170004_52, x170005_59, wrap64 (rd l0 x9_59)⟩ : S31)]) (wrap64 (x6_1 + (t170.length : Int)))) else (none)) else (some (x5_1, x6_1, 12)))) else (none)) else (none)) = some (r1, r2, r3) := by rw [if_pos rfl] at H; exact H
                                clear H
                                have H := H1
                                clear H1
                                by_cases c78 : 0 ≤ x9_59
                                · rw [if_pos c78] at H
                                  have c78b0 : decide (0 ≤ x9_59) = true := decide_eq_true c78
                                  clear c78
                                  by_cases c79 : x9_59 < (l0.length : Int)
                                  · rw [if_pos c79] at H
                                    have c79b0 : decide (x9_59 < (l0.length : Int)) = true := decide_eq_true c79
                                    clear c79
                                    replace H := Option.bind_eq_some_iff.mp H
                                    obtain ⟨t185, A800, H⟩ := H
                                    replace H : (if t185 = true then (if x5_1.length < 2513169434916 then (silhouetteref12_Get.l0 kj66 l0 (x5_1 ++ [(⟨(wrap64 (Int.tmod (rd l0 x6_1) 128)), (decide ((rd l0 x6_1) ≥ 128)), x170002_29, x170003_66, x170004_52, x170005_59, wrap64 (rd l0 x9_59)⟩ : S31)]) (wrap64 (x6_1 + (t170.length : Int)))) else (none)) else (some (x5_1, x6_1, 12))) = some (r1, r2, r3) := H
                                    have A80 := Aside0.mk A800
                                    clear A800
                                    by_cases c81 : t185 = true
                                    · subst c81
                                      have H1 : (if x5_1.length < 2513169434916 then (silhouetteref12_Get.l0 kj66 l0 (x5_1 ++ [(⟨(wrap64 (Int.tmod (rd l0 x6_1) 128)), (decide ((rd l0 x6_1) ≥ 128)), x170002_29, x170003_66, x170004_52, x170005_59, wrap64 (rd l0 x9_59)⟩ : S31)]) (wrap64 (x6_1 + (t170.length : Int)))) else (none)) = some (r1, r2, r3) := by rw [if_pos rfl] at H; exact H
                                      clear H
                                      have H := H1
                                      clear H1
                                      by_cases c82 : x5_1.length < 2513169434916
                                      · rw [if_pos c82] at H
                                        have LMc82 := Aside0.mk c82
                                        clear c82
                                        obtain ⟨y186, hy186⟩ : ∃ y_ : List (S31), y_ = (x5_1 ++ [(⟨(wrap64 (Int.tmod (rd l0 x6_1) 128)), (decide ((rd l0 x6_1) ≥ 128)), x170002_29, x170003_66, x170004_52, x170005_59, wrap64 (rd l0 x9_59)⟩ : S31)]) := ⟨_, rfl⟩
                                        replace H : (silhouetteref12_Get.l0 kj66 l0 y186 (wrap64 (x6_1 + (t170.length : Int)))) = some (r1, r2, r3) := by first | (rw [hy186]; with_reducible exact H) | (have H2_ := (Option.bind_some _ _).symm.trans H; rw [hy186]; with_reducible exact H2_) | (have H2_ := (Option.bind_some _ _).symm.trans H; with_reducible exact H2_) | with_reducible exact H | (rw [hy186]; exact H) | exact H
                                        have Ny186 := Aside0.mk hy186
                                        clear hy186
                                        have H' := Aside0.mk H
                                        clear H
                                        have hcz83_0 : wc.cell? ⟨gb169, 0, none⟩ = some (.int .i64 (wrap64 (Int.tmod (rd l0 x6_1) 128))) := (blk_cell BK169.out 0).trans rfl
                                        have hcz83_1 : wc.cell? ⟨gb169, 1, none⟩ = some (.bool (decide ((rd l0 x6_1) ≥ 128))) := (blk_cell BK169.out 1).trans rfl
                                        have hcz83_2 : wc.cell? ⟨gb169, 2, none⟩ = some (.int .u64 x170002_29) := (blk_cell BK169.out 2).trans rfl
                                        have hcz83_3 : wc.cell? ⟨gb169, 3, none⟩ = some (.int .u64 x170003_66) := (blk_cell BK169.out 3).trans rfl
                                        have hcz83_4 : wc.cell? ⟨gb169, 4, none⟩ = some (.int .i64 x170004_52) := (blk_cell BK169.out 4).trans rfl
                                        have hcz83_5 : wc.cell? ⟨gb169, 5, none⟩ = some (.int .i64 x170005_59) := (blk_cell BK169.out 5).trans rfl
                                        have hcz83_6 : wc.cell? ⟨gb169, 6, none⟩ = some (.int .i64 0) := (blk_cell BK169.out 6).trans rfl
                                        have hfz83_0 := blk_frozen BK169.out 0
                                        have hfz83_1 := blk_frozen BK169.out 1
                                        have hfz83_2 := blk_frozen BK169.out 2
                                        have hfz83_3 := blk_frozen BK169.out 3
                                        have hfz83_4 := blk_frozen BK169.out 4
                                        have hfz83_5 := blk_frozen BK169.out 5
                                        have hfz83_6 := blk_frozen BK169.out 6
                                        go_wp2_with (first | ((with_reducible refine gate_callee (f := 20) rfl ?_); refine goesL_ (some 90) rfl rfl Try.func20 (by kernel_rfl) rfl #[.int .i64 (wrap64 (Int.tmod (rd l0 x6_1) 128)), .int .u8 78] rfl (by (try simp only [List.map_toArray, List.map_cons, List.map_nil]); first | done | rfl | (simp only [List.length_drop, List.length_take]; rfl)) ?_; (with_reducible refine (silhouetteref12_has.calls kj66 (wrap64 (Int.tmod (rd l0 x6_1) 128)) 78 true _ A76.out).mono ?_); rintro e w' ⟨rfl, ⟨nd, rfl⟩⟩; refine ⟨_, rfl, ?_⟩; (try (rw [drewN_self wc]; generalize hq_ : World.drewN wc _ = wc; have n0_ : Aside0 (Kd.R k31 31 wc w.heap.size (fun k_ => k_ ≠ gb169) u5 x5_1) := ⟨by rw [← hq_]; exact (by (with_reducible repeat (first | apply Kd.R_alloc | apply Kd.R_drewN | apply Kd.R_drew)); exact HO_5.out)⟩; have n1_ : Aside0 (wc.heap[gb169]? = some (.cells #[.int .i64 (wrap64 (Int.tmod (rd l0 x6_1) 128)), .bool (decide ((rd l0 x6_1) ≥ 128)), .int .u64 x170002_29, .int .u64 x170003_66, .int .i64 x170004_52, .int .i64 x170005_59, .int .i64 0] 31 (0, 0))) := ⟨by rw [← hq_]; exact (by (with_reducible repeat (first | refine blk_drewN ?_ _ | refine blk_drew ?_ | refine blk_alloc ?_ _)); exact BK169.out)⟩; have n2_ : Aside0 (Below w.heap.size w wc) := ⟨by rw [← hq_]; exact (by repeat (first | (with_reducible first | exact HB.out | apply below_alloc | apply pw_below_drewN | apply below_drew1 | refine below_set ?_ GE169.out) | exact HB.out))⟩; clear HO_5 BK169 HB hq_; have HO_5 := n0_; have BK169 := n1_; have HB := n2_; clear n0_ n1_ n2_)); have p184 : 0 ≤ (x9_59 : Int) := of_decide_eq_true (by first | (with_reducible assumption) | assumption); have q184 : x9_59 < (l0.length : Int) := of_decide_eq_true (by first | (with_reducible assumption) | assumption); obtain ⟨ad184, e184, hx184_0⟩ := Kd.at_int HR0.out x9_59 p184 q184; obtain rfl : ad167 = ad184 := (by injection e184); replace hx184_0 := (HB.out.cell (World.block_lt_of_cell? w _ hx184_0)).trans hx184_0; replace p184 := eq_true p184; replace q184 := eq_true q184; have hcy_0 : wc.cell? ⟨gb169, 0, none⟩ = some (.int .i64 (wrap64 (Int.tmod (rd l0 x6_1) 128))) := (blk_cell BK169.out 0).trans rfl; have hcy_1 : wc.cell? ⟨gb169, 1, none⟩ = some (.bool (decide ((rd l0 x6_1) ≥ 128))) := (blk_cell BK169.out 1).trans rfl; have hcy_2 : wc.cell? ⟨gb169, 2, none⟩ = some (.int .u64 x170002_29) := (blk_cell BK169.out 2).trans rfl; have hcy_3 : wc.cell? ⟨gb169, 3, none⟩ = some (.int .u64 x170003_66) := (blk_cell BK169.out 3).trans rfl; have hcy_4 : wc.cell? ⟨gb169, 4, none⟩ = some (.int .i64 x170004_52) := (blk_cell BK169.out 4).trans rfl; have hcy_5 : wc.cell? ⟨gb169, 5, none⟩ = some (.int .i64 x170005_59) := (blk_cell BK169.out 5).trans rfl; have hcy_6 : wc.cell? ⟨gb169, 6, none⟩ = some (.int .i64 0) := (blk_cell BK169.out 6).trans rfl; have hfy_0 := blk_frozen BK169.out 0; have hfy_1 := blk_frozen BK169.out 1; have hfy_2 := blk_frozen BK169.out 2; have hfy_3 := blk_frozen BK169.out 3; have hfy_4 := blk_frozen BK169.out 4; have hfy_5 := blk_frozen BK169.out 5; have hfy_6 := blk_frozen BK169.out 6) | ((with_reducible refine gate_callee (f := 14) rfl ?_); refine goesL_ (some 98) rfl rfl Try.func14 (by kernel_rfl) rfl #[.agg #[.int .i64 (wrap64 (Int.tmod (rd l0 x6_1) 128)), .bool (decide ((rd l0 x6_1) ≥ 128)), .int .u64 x170002_29, .int .u64 x170003_66, .int .i64 x170004_52, .int .i64 x170005_59, .int .i64 (wrap64 (rd l0 x9_59))]] rfl (by (try simp only [List.map_toArray, List.map_cons, List.map_nil]); first | done | rfl | (simp only [List.length_drop, List.length_take]; rfl)) ?_; (with_reducible refine (silhouetteref12_Right.calls (wrap64 (Int.tmod (rd l0 x6_1) 128)) (decide ((rd l0 x6_1) ≥ 128)) x170002_29 x170003_66 x170004_52 x170005_59 (wrap64 (rd l0 x9_59)) true _ A80.out).mono ?_); rintro e w84 ⟨rfl, hb⟩; refine ⟨_, rfl, ?_⟩; have n0_ := Aside0.mk (Kd.R_below (by (with_reducible repeat (first | apply Kd.R_alloc | apply Kd.R_drewN | apply Kd.R_drew)); exact (Kd.R_mono (Kd.R_far (p := ⟨gb169, 6, none⟩) (Kd.R_mono HO_5.out (fun k_ hk => (⟨hk, hk⟩ : _ ∧ k_ ≠ gb169))) (fun _ hk => hk.2) (.int .i64 (wrap64 (rd l0 x9_59)))) (fun _ h_ => h_.1))) hb); have n1_ := Aside0.mk (blk_below (g := gb169) (o := .cells #[.int .i64 (wrap64 (Int.tmod (rd l0 x6_1) 128)), .bool (decide ((rd l0 x6_1) ≥ 128)), .int .u64 x170002_29, .int .u64 x170003_66, .int .i64 x170004_52, .int .i64 x170005_59, .int .i64 (wrap64 (rd l0 x9_59))] 31 (0, 0)) (by (with_reducible repeat (first | refine blk_drewN ?_ _ | refine blk_drew ?_ | refine blk_alloc ?_ _)); refine blk_put (cs := #[.int .i64 (wrap64 (Int.tmod (rd l0 x6_1) 128)), .bool (decide ((rd l0 x6_1) ≥ 128)), .int .u64 x170002_29, .int .u64 x170003_66, .int .i64 x170004_52, .int .i64 x170005_59, .int .i64 0]) ?_ 6 _ rfl; (with_reducible repeat (first | refine blk_drewN ?_ _ | refine blk_drew ?_ | refine blk_alloc ?_ _)); exact BK169.out) hb); have n2_ := Aside0.mk (below_step (by repeat (first | (with_reducible first | exact HB.out | apply below_alloc | apply pw_below_drewN | apply below_drew1 | refine below_set ?_ GE169.out) | exact HB.out)) hb); clear HO_5; clear BK169; clear HB; have HO_5 := n0_; have BK169 := n1_; have HB := n2_; clear n0_ n1_ n2_; (try clear hb); (try clear hb2); (try clear hk); (try clear hi); have hcz85_0 : w84.cell? ⟨gb169, 0, none⟩ = some (.int .i64 (wrap64 (Int.tmod (rd l0 x6_1) 128))) := (blk_cell BK169.out 0).trans rfl; have hcz85_1 : w84.cell? ⟨gb169, 1, none⟩ = some (.bool (decide ((rd l0 x6_1) ≥ 128))) := (blk_cell BK169.out 1).trans rfl; have hcz85_2 : w84.cell? ⟨gb169, 2, none⟩ = some (.int .u64 x170002_29) := (blk_cell BK169.out 2).trans rfl; have hcz85_3 : w84.cell? ⟨gb169, 3, none⟩ = some (.int .u64 x170003_66) := (blk_cell BK169.out 3).trans rfl; have hcz85_4 : w84.cell? ⟨gb169, 4, none⟩ = some (.int .i64 x170004_52) := (blk_cell BK169.out 4).trans rfl; have hcz85_5 : w84.cell? ⟨gb169, 5, none⟩ = some (.int .i64 x170005_59) := (blk_cell BK169.out 5).trans rfl; have hcz85_6 : w84.cell? ⟨gb169, 6, none⟩ = some (.int .i64 (wrap64 (rd l0 x9_59))) := (blk_cell BK169.out 6).trans rfl; have hfz85_0 := blk_frozen BK169.out 0; have hfz85_1 := blk_frozen BK169.out 1; have hfz85_2 := blk_frozen BK169.out 2; have hfz85_3 := blk_frozen BK169.out 3; have hfz85_4 := blk_frozen BK169.out 4; have hfz85_5 := blk_frozen BK169.out 5; have hfz85_6 := blk_frozen BK169.out 6) | ((with_reducible refine gate_builtin (b := .append) (xs := #[.tmp 102, .tmp 104]) rfl ?_); at_builtin; refine Kd.R_append k31 (w0 := w) w.heap.size rfl (.tmp 102) (.tmp 104) 22 31 (.agg #[(.int .i64 0), (.bool false), (.int .u64 0), (.int .u64 0), (.int .i64 0), (.int .i64 0), (.int .i64 0)]) 56 rfl Try.underlying22 info31 rfl (by decide) (by omega) u5 x5_1 (⟨(wrap64 (Int.tmod (rd l0 x6_1) 128)), (decide ((rd l0 x6_1) ≥ 128)), x170002_29, x170003_66, x170004_52, x170005_59, wrap64 (rd l0 x9_59)⟩ : S31) [.int .i64 (wrap64 (Int.tmod (rd l0 x6_1) 128)), .bool (decide ((rd l0 x6_1) ≥ 128)), .int .u64 x170002_29, .int .u64 x170003_66, .int .i64 x170004_52, .int .i64 x170005_59, .int .i64 (wrap64 (rd l0 x9_59))] (fun k_ => k_ ≠ gb169) (fun _ => False) rfl rfl ?aP (fun _ hk => hk.elim) ?aF ?aO ?aB ?aS ?aL ?_; (case aP => exact k31_mkM _ _ _ (⟨(wrap64 (Int.tmod (rd l0 x6_1) 128)), (decide ((rd l0 x6_1) ≥ 128)), x170002_29, x170003_66, x170004_52, x170005_59, wrap64 (rd l0 x9_59)⟩ : S31)); (case aB => exact (by repeat (first | (with_reducible first | exact HB.out | apply below_alloc | apply pw_below_drewN | apply below_drew1 | refine below_set ?_ GE169.out) | exact HB.out))); (case aF => exact (fun k_ hk => Kd.freshB (g := gb169) (o := .cells #[.int .i64 (wrap64 (Int.tmod (rd l0 x6_1) 128)), .bool (decide ((rd l0 x6_1) ≥ 128)), .int .u64 x170002_29, .int .u64 x170003_66, .int .i64 x170004_52, .int .i64 x170005_59, .int .i64 (wrap64 (rd l0 x9_59))] 31 (0, 0)) (by (with_reducible repeat (first | refine blk_drewN ?_ _ | refine blk_drew ?_ | refine blk_alloc ?_ _)); exact BK169.out) k_ hk)); (case aO => exact (by (with_reducible repeat (first | apply Kd.R_alloc | apply Kd.R_drewN | apply Kd.R_drew)); exact HO_5.out)); (case aS => exact (below_size (by repeat (first | (with_reducible first | exact HB.out | apply below_alloc | apply pw_below_drewN | apply below_drew1 | refine below_set ?_ GE169.out) | exact HB.out)))); (case aL => have := LMc82.out; omega); intro v187 w86 ho hb hg hat; rw [← Ny186.out] at ho; have n0_ := Aside0.mk (blk_grown (g := gb169) (o := .cells #[.int .i64 (wrap64 (Int.tmod (rd l0 x6_1) 128)), .bool (decide ((rd l0 x6_1) ≥ 128)), .int .u64 x170002_29, .int .u64 x170003_66, .int .i64 x170004_52, .int .i64 x170005_59, .int .i64 (wrap64 (rd l0 x9_59))] 31 (0, 0)) (by (with_reducible repeat (first | refine blk_drewN ?_ _ | refine blk_drew ?_ | refine blk_alloc ?_ _)); exact BK169.out) hg (Kd.R_away HO_5.out (fun _ hk => hk))); have n1_ := Aside0.mk (hb); have n2_ := Aside0.mk (ho); clear BK169; clear HB; clear HO_5; have BK169 := n0_; have HB := n1_; have HO188 := n2_; clear n0_ n1_ n2_; clear ho hb hg hat))
                                        go_roundg kj66
                                        case measure => have := HK1.out; have := HJ29.out; have := HJ52.out; have := HJ59.out; have := HJ66.out; omega
                                        case rel => exact ⟨(y186), (wrap64 (x6_1 + (t170.length : Int))), (by first | rfl | (simp; done) | (simp [*]; done)), H', ⟨by have := HK1.out; have := HJ29.out; have := HJ52.out; have := HJ59.out; have := HJ66.out; omega⟩, ⟨by (with_reducible repeat (first | apply Kd.R_alloc | apply Kd.R_drewN | apply Kd.R_drew)); exact Kd.R_mono HO188.out (fun _ hk => trivial)⟩, ⟨by repeat (first | (with_reducible first | exact HB.out | apply below_alloc | apply pw_below_drewN | apply below_drew1 | refine below_set ?_ GE169.out) | exact HB.out)⟩⟩
                                      · rw [if_neg c82] at H
                                        exact absurd H (by simp)
                                    · replace c81 := Bool.eq_false_iff.mpr c81
                                      subst c81
                                      have H1 : (some (x5_1, x6_1, 12)) = some (r1, r2, r3) := by rw [if_neg (show ¬ (false = true) by decide)] at H; exact H
                                      clear H
                                      have H := H1
                                      clear H1
                                      simp only [Option.some.injEq, Prod.mk.injEq] at H
                                      obtain ⟨rfl, rfl, rfl⟩ := H
                                      have hcz87_0 : wc.cell? ⟨gb169, 0, none⟩ = some (.int .i64 (wrap64 (Int.tmod (rd l0 x6_1) 128))) := (blk_cell BK169.out 0).trans rfl
                                      have hcz87_1 : wc.cell? ⟨gb169, 1, none⟩ = some (.bool (decide ((rd l0 x6_1) ≥ 128))) := (blk_cell BK169.out 1).trans rfl
                                      have hcz87_2 : wc.cell? ⟨gb169, 2, none⟩ = some (.int .u64 x170002_29) := (blk_cell BK169.out 2).trans rfl
                                      have hcz87_3 : wc.cell? ⟨gb169, 3, none⟩ = some (.int .u64 x170003_66) := (blk_cell BK169.out 3).trans rfl
                                      have hcz87_4 : wc.cell? ⟨gb169, 4, none⟩ = some (.int .i64 x170004_52) := (blk_cell BK169.out 4).trans rfl
                                      have hcz87_5 : wc.cell? ⟨gb169, 5, none⟩ = some (.int .i64 x170005_59) := (blk_cell BK169.out 5).trans rfl
                                      have hcz87_6 : wc.cell? ⟨gb169, 6, none⟩ = some (.int .i64 0) := (blk_cell BK169.out 6).trans rfl
                                      have hfz87_0 := blk_frozen BK169.out 0
                                      have hfz87_1 := blk_frozen BK169.out 1
                                      have hfz87_2 := blk_frozen BK169.out 2
                                      have hfz87_3 := blk_frozen BK169.out 3
                                      have hfz87_4 := blk_frozen BK169.out 4
                                      have hfz87_5 := blk_frozen BK169.out 5
                                      have hfz87_6 := blk_frozen BK169.out 6
                                      go_wp2_with (first | ((with_reducible refine gate_callee (f := 20) rfl ?_); refine goesL_ (some 90) rfl rfl Try.func20 (by kernel_rfl) rfl #[.int .i64 (wrap64 (Int.tmod (rd l0 x6_1) 128)), .int .u8 78] rfl (by (try simp only [List.map_toArray, List.map_cons, List.map_nil]); first | done | rfl | (simp only [List.length_drop, List.length_take]; rfl)) ?_; (with_reducible refine (silhouetteref12_has.calls kj66 (wrap64 (Int.tmod (rd l0 x6_1) 128)) 78 true _ A76.out).mono ?_); rintro e w' ⟨rfl, ⟨nd, rfl⟩⟩; refine ⟨_, rfl, ?_⟩; (try (rw [drewN_self wc]; generalize hq_ : World.drewN wc _ = wc; have n0_ : Aside0 (Kd.R k31 31 wc w.heap.size (fun k_ => k_ ≠ gb169) u5 x5_1) := ⟨by rw [← hq_]; exact (by (with_reducible repeat (first | apply Kd.R_alloc | apply Kd.R_drewN | apply Kd.R_drew)); exact HO_5.out)⟩; have n1_ : Aside0 (wc.heap[gb169]? = some (.cells #[.int .i64 (wrap64 (Int.tmod (rd l0 x6_1) 128)), .bool (decide ((rd l0 x6_1) ≥ 128)), .int .u64 x170002_29, .int .u64 x170003_66, .int .i64 x170004_52, .int .i64 x170005_59, .int .i64 0] 31 (0, 0))) := ⟨by rw [← hq_]; exact (by (with_reducible repeat (first | refine blk_drewN ?_ _ | refine blk_drew ?_ | refine blk_alloc ?_ _)); exact BK169.out)⟩; have n2_ : Aside0 (Below w.heap.size w wc) := ⟨by rw [← hq_]; exact (by repeat (first | (with_reducible first | exact HB.out | apply below_alloc | apply pw_below_drewN | apply below_drew1 | refine below_set ?_ GE169.out) | exact HB.out))⟩; clear HO_5 BK169 HB hq_; have HO_5 := n0_; have BK169 := n1_; have HB := n2_; clear n0_ n1_ n2_)); have p184 : 0 ≤ (x9_59 : Int) := of_decide_eq_true (by first | (with_reducible assumption) | assumption); have q184 : x9_59 < (l0.length : Int) := of_decide_eq_true (by first | (with_reducible assumption) | assumption); obtain ⟨ad184, e184, hx184_0⟩ := Kd.at_int HR0.out x9_59 p184 q184; obtain rfl : ad167 = ad184 := (by injection e184); replace hx184_0 := (HB.out.cell (World.block_lt_of_cell? w _ hx184_0)).trans hx184_0; replace p184 := eq_true p184; replace q184 := eq_true q184; have hcy_0 : wc.cell? ⟨gb169, 0, none⟩ = some (.int .i64 (wrap64 (Int.tmod (rd l0 x6_1) 128))) := (blk_cell BK169.out 0).trans rfl; have hcy_1 : wc.cell? ⟨gb169, 1, none⟩ = some (.bool (decide ((rd l0 x6_1) ≥ 128))) := (blk_cell BK169.out 1).trans rfl; have hcy_2 : wc.cell? ⟨gb169, 2, none⟩ = some (.int .u64 x170002_29) := (blk_cell BK169.out 2).trans rfl; have hcy_3 : wc.cell? ⟨gb169, 3, none⟩ = some (.int .u64 x170003_66) := (blk_cell BK169.out 3).trans rfl; have hcy_4 : wc.cell? ⟨gb169, 4, none⟩ = some (.int .i64 x170004_52) := (blk_cell BK169.out 4).trans rfl; have hcy_5 : wc.cell? ⟨gb169, 5, none⟩ = some (.int .i64 x170005_59) := (blk_cell BK169.out 5).trans rfl; have hcy_6 : wc.cell? ⟨gb169, 6, none⟩ = some (.int .i64 0) := (blk_cell BK169.out 6).trans rfl; have hfy_0 := blk_frozen BK169.out 0; have hfy_1 := blk_frozen BK169.out 1; have hfy_2 := blk_frozen BK169.out 2; have hfy_3 := blk_frozen BK169.out 3; have hfy_4 := blk_frozen BK169.out 4; have hfy_5 := blk_frozen BK169.out 5; have hfy_6 := blk_frozen BK169.out 6) | ((with_reducible refine gate_callee (f := 14) rfl ?_); refine goesL_ (some 98) rfl rfl Try.func14 (by kernel_rfl) rfl #[.agg #[.int .i64 (wrap64 (Int.tmod (rd l0 x6_1) 128)), .bool (decide ((rd l0 x6_1) ≥ 128)), .int .u64 x170002_29, .int .u64 x170003_66, .int .i64 x170004_52, .int .i64 x170005_59, .int .i64 (wrap64 (rd l0 x9_59))]] rfl (by (try simp only [List.map_toArray, List.map_cons, List.map_nil]); first | done | rfl | (simp only [List.length_drop, List.length_take]; rfl)) ?_; (with_reducible refine (silhouetteref12_Right.calls (wrap64 (Int.tmod (rd l0 x6_1) 128)) (decide ((rd l0 x6_1) ≥ 128)) x170002_29 x170003_66 x170004_52 x170005_59 (wrap64 (rd l0 x9_59)) false _ A80.out).mono ?_); rintro e w88 ⟨rfl, hb⟩; refine ⟨_, rfl, ?_⟩; have n0_ := Aside0.mk (Kd.R_below (by (with_reducible repeat (first | apply Kd.R_alloc | apply Kd.R_drewN | apply Kd.R_drew)); exact (Kd.R_mono (Kd.R_far (p := ⟨gb169, 6, none⟩) (Kd.R_mono HO_5.out (fun k_ hk => (⟨hk, hk⟩ : _ ∧ k_ ≠ gb169))) (fun _ hk => hk.2) (.int .i64 (wrap64 (rd l0 x9_59)))) (fun _ h_ => h_.1))) hb); have n1_ := Aside0.mk (blk_below (g := gb169) (o := .cells #[.int .i64 (wrap64 (Int.tmod (rd l0 x6_1) 128)), .bool (decide ((rd l0 x6_1) ≥ 128)), .int .u64 x170002_29, .int .u64 x170003_66, .int .i64 x170004_52, .int .i64 x170005_59, .int .i64 (wrap64 (rd l0 x9_59))] 31 (0, 0)) (by (with_reducible repeat (first | refine blk_drewN ?_ _ | refine blk_drew ?_ | refine blk_alloc ?_ _)); refine blk_put (cs := #[.int .i64 (wrap64 (Int.tmod (rd l0 x6_1) 128)), .bool (decide ((rd l0 x6_1) ≥ 128)), .int .u64 x170002_29, .int .u64 x170003_66, .int .i64 x170004_52, .int .i64 x170005_59, .int .i64 0]) ?_ 6 _ rfl; (with_reducible repeat (first | refine blk_drewN ?_ _ | refine blk_drew ?_ | refine blk_alloc ?_ _)); exact BK169.out) hb); have n2_ := Aside0.mk (below_step (by repeat (first | (with_reducible first | exact HB.out | apply below_alloc | apply pw_below_drewN | apply below_drew1 | refine below_set ?_ GE169.out) | exact HB.out)) hb); clear HO_5; clear BK169; clear HB; have HO_5 := n0_; have BK169 := n1_; have HB := n2_; clear n0_ n1_ n2_; (try clear hb); (try clear hb2); (try clear hk); (try clear hi)))
                                      go_ret3
                                      exact ⟨_, by first | rfl | (simp [errW_none, errW_some] <;> rfl) | (simp [*, errW_none, errW_some] <;> rfl), by (with_reducible repeat (first | apply Kd.R_alloc | apply Kd.R_drewN | apply Kd.R_drew)); exact Kd.R_mono HO_5.out (fun _ hk => trivial), by repeat (first | (with_reducible first | exact HB.out | apply below_alloc | apply pw_below_drewN | apply below_drew1 | refine below_set ?_ GE169.out) | exact HB.out)⟩
                                  · rw [if_neg c79] at H
                                    exact absurd H (by simp)
                                · rw [if_neg c78] at H
                                  exact absurd H (by simp)
                              · replace c77 := Bool.eq_false_iff.mpr c77
                                subst c77
                                have H1 : ((silhouetteref12_Right.f (wrap64 (Int.tmod (rd l0 x6_1) 128)) (decide ((rd l0 x6_1) ≥ 128)) x170002_29 x170003_66 x170004_52 x170005_59 0).bind fun t189 => (if t189 = true then (if x5_1.length < 2513169434916 then (silhouetteref12_Get.l0 kj66 l0 (x5_1 ++ [(⟨(wrap64 (Int.tmod (rd l0 x6_1) 128)), (decide ((rd l0 x6_1) ≥ 128)), x170002_29, x170003_66, x170004_52, x170005_59, 0⟩ : S31)]) (wrap64 (x6_1 + (t170.length : Int)))) else (none)) else (some (x5_1, x6_1, 12)))) = some (r1, r2, r3) := by rw [if_neg (show ¬ (false = true) by decide)] at H; exact H
                                clear H
                                have H := H1
                                clear H1
                                replace H := Option.bind_eq_some_iff.mp H
                                obtain ⟨t189, A890, H⟩ := H
                                replace H : (if t189 = true then (if x5_1.length < 2513169434916 then (silhouetteref12_Get.l0 kj66 l0 (x5_1 ++ [(⟨(wrap64 (Int.tmod (rd l0 x6_1) 128)), (decide ((rd l0 x6_1) ≥ 128)), x170002_29, x170003_66, x170004_52, x170005_59, 0⟩ : S31)]) (wrap64 (x6_1 + (t170.length : Int)))) else (none)) else (some (x5_1, x6_1, 12))) = some (r1, r2, r3) := H
                                have A89 := Aside0.mk A890
                                clear A890
                                by_cases c90 : t189 = true
                                · subst c90
                                  have H1 : (if x5_1.length < 2513169434916 then (silhouetteref12_Get.l0 kj66 l0 (x5_1 ++ [(⟨(wrap64 (Int.tmod (rd l0 x6_1) 128)), (decide ((rd l0 x6_1) ≥ 128)), x170002_29, x170003_66, x170004_52, x170005_59, 0⟩ : S31)]) (wrap64 (x6_1 + (t170.length : Int)))) else (none)) = some (r1, r2, r3) := by rw [if_pos rfl] at H; exact H
                                  clear H
                                  have H := H1
                                  clear H1
                                  by_cases c91 : x5_1.length < 2513169434916
                                  · rw [if_pos c91] at H
                                    have LMc91 := Aside0.mk c91
                                    clear c91
                                    obtain ⟨y190, hy190⟩ : ∃ y_ : List (S31), y_ = (x5_1 ++ [(⟨(wrap64 (Int.tmod (rd l0 x6_1) 128)), (decide ((rd l0 x6_1) ≥ 128)), x170002_29, x170003_66, x170004_52, x170005_59, 0⟩ : S31)]) := ⟨_, rfl⟩
                                    replace H : (silhouetteref12_Get.l0 kj66 l0 y190 (wrap64 (x6_1 + (t170.length : Int)))) = some (r1, r2, r3) := by first | (rw [hy190]; with_reducible exact H) | (have H2_ := (Option.bind_some _ _).symm.trans H; rw [hy190]; with_reducible exact H2_) | (have H2_ := (Option.bind_some _ _).symm.trans H; with_reducible exact H2_) | with_reducible exact H | (rw [hy190]; exact H) | exact H
                                    have Ny190 := Aside0.mk hy190
                                    clear hy190
                                    have H' := Aside0.mk H
                                    clear H
                                    have hcz92_0 : wc.cell? ⟨gb169, 0, none⟩ = some (.int .i64 (wrap64 (Int.tmod (rd l0 x6_1) 128))) := (blk_cell BK169.out 0).trans rfl
                                    have hcz92_1 : wc.cell? ⟨gb169, 1, none⟩ = some (.bool (decide ((rd l0 x6_1) ≥ 128))) := (blk_cell BK169.out 1).trans rfl
                                    have hcz92_2 : wc.cell? ⟨gb169, 2, none⟩ = some (.int .u64 x170002_29) := (blk_cell BK169.out 2).trans rfl
                                    have hcz92_3 : wc.cell? ⟨gb169, 3, none⟩ = some (.int .u64 x170003_66) := (blk_cell BK169.out 3).trans rfl
                                    have hcz92_4 : wc.cell? ⟨gb169, 4, none⟩ = some (.int .i64 x170004_52) := (blk_cell BK169.out 4).trans rfl
                                    have hcz92_5 : wc.cell? ⟨gb169, 5, none⟩ = some (.int .i64 x170005_59) := (blk_cell BK169.out 5).trans rfl
                                    have hcz92_6 : wc.cell? ⟨gb169, 6, none⟩ = some (.int .i64 0) := (blk_cell BK169.out 6).trans rfl
                                    have hfz92_0 := blk_frozen BK169.out 0
                                    have hfz92_1 := blk_frozen BK169.out 1
                                    have hfz92_2 := blk_frozen BK169.out 2
                                    have hfz92_3 := blk_frozen BK169.out 3
                                    have hfz92_4 := blk_frozen BK169.out 4
                                    have hfz92_5 := blk_frozen BK169.out 5
                                    have hfz92_6 := blk_frozen BK169.out 6
                                    go_wp2_with (first | ((with_reducible refine gate_callee (f := 20) rfl ?_); refine goesL_ (some 90) rfl rfl Try.func20 (by kernel_rfl) rfl #[.int .i64 (wrap64 (Int.tmod (rd l0 x6_1) 128)), .int .u8 78] rfl (by (try simp only [List.map_toArray, List.map_cons, List.map_nil]); first | done | rfl | (simp only [List.length_drop, List.length_take]; rfl)) ?_; (with_reducible refine (silhouetteref12_has.calls kj66 (wrap64 (Int.tmod (rd l0 x6_1) 128)) 78 false _ A76.out).mono ?_); rintro e w' ⟨rfl, ⟨nd, rfl⟩⟩; refine ⟨_, rfl, ?_⟩) | ((with_reducible refine gate_callee (f := 14) rfl ?_); refine goesL_ (some 98) rfl rfl Try.func14 (by kernel_rfl) rfl #[.agg #[.int .i64 (wrap64 (Int.tmod (rd l0 x6_1) 128)), .bool (decide ((rd l0 x6_1) ≥ 128)), .int .u64 x170002_29, .int .u64 x170003_66, .int .i64 x170004_52, .int .i64 x170005_59, .int .i64 0]] rfl (by (try simp only [List.map_toArray, List.map_cons, List.map_nil]); first | done | rfl | (simp only [List.length_drop, List.length_take]; rfl)) ?_; (with_reducible refine (silhouetteref12_Right.calls (wrap64 (Int.tmod (rd l0 x6_1) 128)) (decide ((rd l0 x6_1) ≥ 128)) x170002_29 x170003_66 x170004_52 x170005_59 0 true _ A89.out).mono ?_); rintro e w93 ⟨rfl, hb⟩; refine ⟨_, rfl, ?_⟩; have n0_ := Aside0.mk (Kd.R_below (by (with_reducible repeat (first | apply Kd.R_alloc | apply Kd.R_drewN | apply Kd.R_drew)); exact HO_5.out) hb); have n1_ := Aside0.mk (blk_below (g := gb169) (o := .cells #[.int .i64 (wrap64 (Int.tmod (rd l0 x6_1) 128)), .bool (decide ((rd l0 x6_1) ≥ 128)), .int .u64 x170002_29, .int .u64 x170003_66, .int .i64 x170004_52, .int .i64 x170005_59, .int .i64 0] 31 (0, 0)) (by (with_reducible repeat (first | refine blk_drewN ?_ _ | refine blk_drew ?_ | refine blk_alloc ?_ _)); exact BK169.out) hb); have n2_ := Aside0.mk (below_step (by repeat (first | (with_reducible first | exact HB.out | apply below_alloc | apply pw_below_drewN | apply below_drew1 | refine below_set ?_ GE169.out) | exact HB.out)) hb); clear HO_5; clear BK169; clear HB; have HO_5 := n0_; have BK169 := n1_; have HB := n2_; clear n0_ n1_ n2_; (try clear hb); (try clear hb2); (try clear hk); (try clear hi); have hcz94_0 : w93.cell? ⟨gb169, 0, none⟩ = some (.int .i64 (wrap64 (Int.tmod (rd l0 x6_1) 128))) := (blk_cell BK169.out 0).trans rfl; have hcz94_1 : w93.cell? ⟨gb169, 1, none⟩ = some (.bool (decide ((rd l0 x6_1) ≥ 128))) := (blk_cell BK169.out 1).trans rfl; have hcz94_2 : w93.cell? ⟨gb169, 2, none⟩ = some (.int .u64 x170002_29) := (blk_cell BK169.out 2).trans rfl; have hcz94_3 : w93.cell? ⟨gb169, 3, none⟩ = some (.int .u64 x170003_66) := (blk_cell BK169.out 3).trans rfl; have hcz94_4 : w93.cell? ⟨gb169, 4, none⟩ = some (.int .i64 x170004_52) := (blk_cell BK169.out 4).trans rfl; have hcz94_5 : w93.cell? ⟨gb169, 5, none⟩ = some (.int .i64 x170005_59) := (blk_cell BK169.out 5).trans rfl; have hcz94_6 : w93.cell? ⟨gb169, 6, none⟩ = some (.int .i64 0) := (blk_cell BK169.out 6).trans rfl; have hfz94_0 := blk_frozen BK169.out 0; have hfz94_1 := blk_frozen BK169.out 1; have hfz94_2 := blk_frozen BK169.out 2; have hfz94_3 := blk_frozen BK169.out 3; have hfz94_4 := blk_frozen BK169.out 4; have hfz94_5 := blk_frozen BK169.out 5; have hfz94_6 := blk_frozen BK169.out 6) | ((with_reducible refine gate_builtin (b := .append) (xs := #[.tmp 102, .tmp 104]) rfl ?_); at_builtin; refine Kd.R_append k31 (w0 := w) w.heap.size rfl (.tmp 102) (.tmp 104) 22 31 (.agg #[(.int .i64 0), (.bool false), (.int .u64 0), (.int .u64 0), (.int .i64 0), (.int .i64 0), (.int .i64 0)]) 56 rfl Try.underlying22 info31 rfl (by decide) (by omega) u5 x5_1 (⟨(wrap64 (Int.tmod (rd l0 x6_1) 128)), (decide ((rd l0 x6_1) ≥ 128)), x170002_29, x170003_66, x170004_52, x170005_59, 0⟩ : S31) [.int .i64 (wrap64 (Int.tmod (rd l0 x6_1) 128)), .bool (decide ((rd l0 x6_1) ≥ 128)), .int .u64 x170002_29, .int .u64 x170003_66, .int .i64 x170004_52, .int .i64 x170005_59, .int .i64 0] (fun k_ => k_ ≠ gb169) (fun _ => False) rfl rfl ?aP (fun _ hk => hk.elim) ?aF ?aO ?aB ?aS ?aL ?_; (case aP => exact k31_mkM _ _ _ (⟨(wrap64 (Int.tmod (rd l0 x6_1) 128)), (decide ((rd l0 x6_1) ≥ 128)), x170002_29, x170003_66, x170004_52, x170005_59, 0⟩ : S31)); (case aB => exact (by repeat (first | (with_reducible first | exact HB.out | apply below_alloc | apply pw_below_drewN | apply below_drew1 | refine below_set ?_ GE169.out) | exact HB.out))); (case aF => exact (fun k_ hk => Kd.freshB (g := gb169) (o := .cells #[.int .i64 (wrap64 (Int.tmod (rd l0 x6_1) 128)), .bool (decide ((rd l0 x6_1) ≥ 128)), .int .u64 x170002_29, .int .u64 x170003_66, .int .i64 x170004_52, .int .i64 x170005_59, .int .i64 0] 31 (0, 0)) (by (with_reducible repeat (first | refine blk_drewN ?_ _ | refine blk_drew ?_ | refine blk_alloc ?_ _)); exact BK169.out) k_ hk)); (case aO => exact (by (with_reducible repeat (first | apply Kd.R_alloc | apply Kd.R_drewN | apply Kd.R_drew)); exact HO_5.out)); (case aS => exact (below_size (by repeat (first | (with_reducible first | exact HB.out | apply below_alloc | apply pw_below_drewN | apply below_drew1 | refine below_set ?_ GE169.out) | exact HB.out)))); (case aL => have := LMc91.out; omega); intro v191 w95 ho hb hg hat; rw [← Ny190.out] at ho; have n0_ := Aside0.mk (blk_grown (g := gb169) (o := .cells #[.int .i64 (wrap64 (Int.tmod (rd l0 x6_1) 128)), .bool (decide ((rd l0 x6_1) ≥ 128)), .int .u64 x170002_29, .int .u64 x170003_66, .int .i64 x170004_52, .int .i64 x170005_59, .int .i64 0] 31 (0, 0)) (by (with_reducible repeat (first | refine blk_drewN ?_ _ | refine blk_drew ?_ | refine blk_alloc ?_ _)); exact BK169.out) hg (Kd.R_away HO_5.out (fun _ hk => hk))); have n1_ := Aside0.mk (hb); have n2_ := Aside0.mk (ho); clear BK169; clear HB; clear HO_5; have BK169 := n0_; have HB := n1_; have HO192 := n2_; clear n0_ n1_ n2_; clear ho hb hg hat))
                                    go_roundg kj66
                                    case measure => have := HK1.out; have := HJ29.out; have := HJ52.out; have := HJ59.out; have := HJ66.out; omega
                                    case rel => exact ⟨(y190), (wrap64 (x6_1 + (t170.length : Int))), (by first | rfl | (simp; done) | (simp [*]; done)), H', ⟨by have := HK1.out; have := HJ29.out; have := HJ52.out; have := HJ59.out; have := HJ66.out; omega⟩, ⟨by (with_reducible repeat (first | apply Kd.R_alloc | apply Kd.R_drewN | apply Kd.R_drew)); exact Kd.R_mono HO192.out (fun _ hk => trivial)⟩, ⟨by repeat (first | (with_reducible first | exact HB.out | apply below_alloc | apply pw_below_drewN | apply below_drew1 | refine below_set ?_ GE169.out) | exact HB.out)⟩⟩
                                  · rw [if_neg c91] at H
                                    exact absurd H (by simp)
                                · replace c90 := Bool.eq_false_iff.mpr c90
                                  subst c90
                                  have H1 : (some (x5_1, x6_1, 12)) = some (r1, r2, r3) := by rw [if_neg (show ¬ (false = true) by decide)] at H; exact H
                                  clear H
                                  have H := H1
                                  clear H1
                                  simp only [Option.some.injEq, Prod.mk.injEq] at H
                                  obtain ⟨rfl, rfl, rfl⟩ := H
                                  have hcz96_0 : wc.cell? ⟨gb169, 0, none⟩ = some (.int .i64 (wrap64 (Int.tmod (rd l0 x6_1) 128))) := (blk_cell BK169.out 0).trans rfl
                                  have hcz96_1 : wc.cell? ⟨gb169, 1, none⟩ = some (.bool (decide ((rd l0 x6_1) ≥ 128))) := (blk_cell BK169.out 1).trans rfl
                                  have hcz96_2 : wc.cell? ⟨gb169, 2, none⟩ = some (.int .u64 x170002_29) := (blk_cell BK169.out 2).trans rfl
                                  have hcz96_3 : wc.cell? ⟨gb169, 3, none⟩ = some (.int .u64 x170003_66) := (blk_cell BK169.out 3).trans rfl
                                  have hcz96_4 : wc.cell? ⟨gb169, 4, none⟩ = some (.int .i64 x170004_52) := (blk_cell BK169.out 4).trans rfl
                                  have hcz96_5 : wc.cell? ⟨gb169, 5, none⟩ = some (.int .i64 x170005_59) := (blk_cell BK169.out 5).trans rfl
                                  have hcz96_6 : wc.cell? ⟨gb169, 6, none⟩ = some (.int .i64 0) := (blk_cell BK169.out 6).trans rfl
                                  have hfz96_0 := blk_frozen BK169.out 0
                                  have hfz96_1 := blk_frozen BK169.out 1
                                  have hfz96_2 := blk_frozen BK169.out 2
                                  have hfz96_3 := blk_frozen BK169.out 3
                                  have hfz96_4 := blk_frozen BK169.out 4
                                  have hfz96_5 := blk_frozen BK169.out 5
                                  have hfz96_6 := blk_frozen BK169.out 6
                                  go_wp2_with (first | ((with_reducible refine gate_callee (f := 20) rfl ?_); refine goesL_ (some 90) rfl rfl Try.func20 (by kernel_rfl) rfl #[.int .i64 (wrap64 (Int.tmod (rd l0 x6_1) 128)), .int .u8 78] rfl (by (try simp only [List.map_toArray, List.map_cons, List.map_nil]); first | done | rfl | (simp only [List.length_drop, List.length_take]; rfl)) ?_; (with_reducible refine (silhouetteref12_has.calls kj66 (wrap64 (Int.tmod (rd l0 x6_1) 128)) 78 false _ A76.out).mono ?_); rintro e w' ⟨rfl, ⟨nd, rfl⟩⟩; refine ⟨_, rfl, ?_⟩) | ((with_reducible refine gate_callee (f := 14) rfl ?_); refine goesL_ (some 98) rfl rfl Try.func14 (by kernel_rfl) rfl #[.agg #[.int .i64 (wrap64 (Int.tmod (rd l0 x6_1) 128)), .bool (decide ((rd l0 x6_1) ≥ 128)), .int .u64 x170002_29, .int .u64 x170003_66, .int .i64 x170004_52, .int .i64 x170005_59, .int .i64 0]] rfl (by (try simp only [List.map_toArray, List.map_cons, List.map_nil]); first | done | rfl | (simp only [List.length_drop, List.length_take]; rfl)) ?_; (with_reducible refine (silhouetteref12_Right.calls (wrap64 (Int.tmod (rd l0 x6_1) 128)) (decide ((rd l0 x6_1) ≥ 128)) x170002_29 x170003_66 x170004_52 x170005_59 0 false _ A89.out).mono ?_); rintro e w97 ⟨rfl, hb⟩; refine ⟨_, rfl, ?_⟩; have n0_ := Aside0.mk (Kd.R_below (by (with_reducible repeat (first | apply Kd.R_alloc | apply Kd.R_drewN | apply Kd.R_drew)); exact HO_5.out) hb); have n1_ := Aside0.mk (blk_below (g := gb169) (o := .cells #[.int .i64 (wrap64 (Int.tmod (rd l0 x6_1) 128)), .bool (decide ((rd l0 x6_1) ≥ 128)), .int .u64 x170002_29, .int .u64 x170003_66, .int .i64 x170004_52, .int .i64 x170005_59, .int .i64 0] 31 (0, 0)) (by (with_reducible repeat (first | refine blk_drewN ?_ _ | refine blk_drew ?_ | refine blk_alloc ?_ _)); exact BK169.out) hb); have n2_ := Aside0.mk (below_step (by repeat (first | (with_reducible first | exact HB.out | apply below_alloc | apply pw_below_drewN | apply below_drew1 | refine below_set ?_ GE169.out) | exact HB.out)) hb); clear HO_5; clear BK169; clear HB; have HO_5 := n0_; have BK169 := n1_; have HB := n2_; clear n0_ n1_ n2_; (try clear hb); (try clear hb2); (try clear hk); (try clear hi)))
                                  go_ret3
                                  exact ⟨_, by first | rfl | (simp [errW_none, errW_some] <;> rfl) | (simp [*, errW_none, errW_some] <;> rfl), by (with_reducible repeat (first | apply Kd.R_alloc | apply Kd.R_drewN | apply Kd.R_drew)); exact Kd.R_mono HO_5.out (fun _ hk => trivial), by repeat (first | (with_reducible first | exact HB.out | apply below_alloc | apply pw_below_drewN | apply below_drew1 | refine below_set ?_ GE169.out) | exact HB.out)⟩
        · rw [if_neg c3] at H
          exact absurd H (by simp)
      · rw [if_neg c2] at H
        have c2b0 : decide (x6_1 < (l0.length : Int)) = false := decide_eq_false c2
        clear c2
        simp only [Option.some.injEq, Prod.mk.injEq] at H
        obtain ⟨rfl, rfl, rfl⟩ := H
        go_wp2
        go_ret3
        exact ⟨_, by first | rfl | (simp [errW_none, errW_some] <;> rfl) | (simp [*, errW_none, errW_some] <;> rfl), by (with_reducible repeat (first | apply Kd.R_alloc | apply Kd.R_drewN | apply Kd.R_drew)); exact HO_5.out, by repeat (first | (with_reducible first | exact HB.out | apply below_alloc | apply pw_below_drewN | apply below_drew1) | exact HB.out)⟩

end Go.Proofs.Ytmifcdmkobammaa.Q
