/- Layer 6: the walk of RightUsers over its callees' contracts; for every input. -/
import Derived.Test.YtiiaififiijcnaaFacts
import Derived.Test.YtiiaififiijcnaaBlk
namespace Go.Proofs.Ytiiaififiijcnaa.UsersWalk
open Go.RowKit Go.Proofs.Ytiiaififiijcnaa.PRightMeet Go.Proofs.YtiiaififiijcnaaW.PrintWords Go.Proofs.YtiiaififiijcnaaW.PrintLast Go.Proofs.YtiiaififiijcnaaW.PrintMore
open Go.Proofs.Ytiiaififiijcnaa.Facts
open Go.Proofs.Ytiiaififiijcnaa.Blks (Blk cells3)

/-- What every step keeps: the four boxes, and all that lay below. -/
structure Rest (w0 : World) (g : Nat) (W : World) : Prop where
  ha : Blk W g 26 #[.bool true, .bool true, .bool true]
  hb : Blk W (g + 1) 26 #[.bool false, .bool true, .bool true]
  hc : Blk W (g + 1 + 1) 26 #[.bool true, .bool true, .bool false]
  hd : Blk W (g + 1 + 1 + 1) 26 #[.bool true, .bool false, .bool true]
  below : Below w0.heap.size w0 W
section
variable {w0 : World} {g : Nat} {W w' : World}
theorem Rest.step (h : Rest w0 g W) (k : Below W.heap.size W w') : Rest w0 g w' :=
  ⟨h.ha.below_ k, h.hb.below_ k, h.hc.below_ k, h.hd.below_ k, Blks.below_then h.below h.below.size k⟩
theorem Rest.cells (h : Rest w0 g W) :
  W.cell? ⟨g, 0, none⟩ = some (.bool true) ∧ W.cell? ⟨g, 1, none⟩ = some (.bool true) ∧ W.cell? ⟨g, 2, none⟩ = some (.bool true) ∧
  W.cell? ⟨g + 1, 0, none⟩ = some (.bool false) ∧ W.cell? ⟨g + 1, 1, none⟩ = some (.bool true) ∧ W.cell? ⟨g + 1, 2, none⟩ = some (.bool true) ∧
  W.cell? ⟨g + 1 + 1, 0, none⟩ = some (.bool true) ∧ W.cell? ⟨g + 1 + 1, 1, none⟩ = some (.bool true) ∧ W.cell? ⟨g + 1 + 1, 2, none⟩ = some (.bool false) ∧
  W.cell? ⟨g + 1 + 1 + 1, 0, none⟩ = some (.bool true) ∧ W.cell? ⟨g + 1 + 1 + 1, 1, none⟩ = some (.bool false) ∧ W.cell? ⟨g + 1 + 1 + 1, 2, none⟩ = some (.bool true) :=
  ⟨h.ha.cell 0, h.ha.cell 1, h.ha.cell 2, h.hb.cell 0, h.hb.cell 1, h.hb.cell 2, h.hc.cell 0, h.hc.cell 1, h.hc.cell 2, h.hd.cell 0, h.hd.cell 1, h.hd.cell 2⟩
end
theorem may_is {x0 x1 x2 : Bool} {k : Int} {u r : Bool} (h : mayB x0 x1 x2 k u = r) (w : World) :
    Calls Try.prog 19 #[.agg #[.bool x0, .bool x1, .bool x2], .int .i64 k, .bool u] w fun e w' => e = .returned (.bool r) ∧ Below w.heap.size w w' := h ▸ may_any x0 x1 x2 k u w
/-- The boxes as they were laid. -/
theorem start (w w1 w2 : World) (h1 : Below w.heap.size w w1) (h2 : Below w1.heap.size w1 w2) :
    Rest w w2.heap.size ((((w2.alloc (.cells #[.bool true, .bool true, .bool true] 26)).alloc (.cells #[.bool false, .bool true, .bool true] 26)).alloc (.cells #[.bool true, .bool true, .bool false] 26)).alloc (.cells #[.bool true, .bool false, .bool true] 26)) := by
  have z0 := (((Blk.new w2 26 #[.bool true, .bool true, .bool true]).alloc (.cells #[.bool false, .bool true, .bool true] 26)).alloc (.cells #[.bool true, .bool true, .bool false] 26)).alloc (.cells #[.bool true, .bool false, .bool true] 26)
  have z1 := ((Blk.new (w2.alloc (.cells #[.bool true, .bool true, .bool true] 26)) 26 #[.bool false, .bool true, .bool true]).alloc (.cells #[.bool true, .bool true, .bool false] 26)).alloc (.cells #[.bool true, .bool false, .bool true] 26)
  have z2 := (Blk.new ((w2.alloc (.cells #[.bool true, .bool true, .bool true] 26)).alloc (.cells #[.bool false, .bool true, .bool true] 26)) 26 #[.bool true, .bool true, .bool false]).alloc (.cells #[.bool true, .bool false, .bool true] 26)
  have z3 := Blk.new (((w2.alloc (.cells #[.bool true, .bool true, .bool true] 26)).alloc (.cells #[.bool false, .bool true, .bool true] 26)).alloc (.cells #[.bool true, .bool true, .bool false] 26)) 26 #[.bool true, .bool false, .bool true]
  have b := Blks.below_then h1 h1.size h2
  have hs := b.size
  simp only [World.size_alloc] at z1 z2 z3
  exact ⟨z0, z1, z2, z3, (((b.alloc hs _).alloc (by simp; omega) _).alloc (by simp; omega) _).alloc (by simp; omega) _⟩

set_option maxHeartbeats 8000000 in
set_option maxRecDepth 100000 in
theorem way0 (w : World) :
    Calls Try.prog 9 #[.bool false] w fun e w' => e = .returned (.bool true) ∧ Below w.heap.size w w' := by
  go_enter Try.func9, Try.ntmps9
  go_wp2_with fail
  refine (head_any _).mono ?_; rintro e w1 ⟨rfl, hb1⟩
  go_wp2_with fail
  refine (all_any _).mono ?_; rintro e w2 ⟨rfl, hb2⟩
  have R := start w w1 w2 hb1 hb2
  clear hb1 hb2
  go_wp2_with fail
  go_loopw [8] (fun i wr => ∃ k : Nat, k ≤ 3 ∧ i = .int .i64 k ∧ Rest w w2.heap.size wr) (fun i _ => 3 - (intOf i).toNat)
  case atStart => exact ⟨0, by omega, rfl, R⟩
  case round =>
    clear R
    obtain ⟨k, hk, rfl, R⟩ := hrel
    obtain ⟨q0, q1, q2, q3, q4, q5, q6, q7, q8, q9, q10, q11⟩ := R.cells
    rcases (by omega : k = 0 ∨ k = 1 ∨ k = 2 ∨ k = 3) with rfl | rfl | rfl | rfl
    · go_wp2_with fail
      refine (may_is (x0 := true) (x1 := true) (x2 := true) (k := 0) (u := false) (r := true) rfl _).mono ?_; rintro e w' ⟨rfl, hb⟩
      replace R := R.step hb; clear hb q0 q1 q2 q3 q4 q5 q6 q7 q8 q9 q10 q11; obtain ⟨q0, q1, q2, q3, q4, q5, q6, q7, q8, q9, q10, q11⟩ := R.cells
      go_wp2_with fail
      refine (may_is (x0 := false) (x1 := true) (x2 := true) (k := 0) (u := false) (r := true) rfl _).mono ?_; rintro e w' ⟨rfl, hb⟩
      replace R := R.step hb; clear hb q0 q1 q2 q3 q4 q5 q6 q7 q8 q9 q10 q11; obtain ⟨q0, q1, q2, q3, q4, q5, q6, q7, q8, q9, q10, q11⟩ := R.cells
      go_wp2_with fail
      refine (may_is (x0 := true) (x1 := true) (x2 := false) (k := 0) (u := false) (r := true) rfl _).mono ?_; rintro e w' ⟨rfl, hb⟩
      replace R := R.step hb; clear hb q0 q1 q2 q3 q4 q5 q6 q7 q8 q9 q10 q11; obtain ⟨q0, q1, q2, q3, q4, q5, q6, q7, q8, q9, q10, q11⟩ := R.cells
      go_wp2_with fail
      refine (may_is (x0 := true) (x1 := false) (x2 := true) (k := 0) (u := false) (r := true) rfl _).mono ?_; rintro e w' ⟨rfl, hb⟩
      replace R := R.step hb; clear hb q0 q1 q2 q3 q4 q5 q6 q7 q8 q9 q10 q11; obtain ⟨q0, q1, q2, q3, q4, q5, q6, q7, q8, q9, q10, q11⟩ := R.cells
      go_wp2_with fail
      go_roundw
      case rel => exact ⟨1, by omega, by go_num, R⟩
      case measure => simp [intOf]
    · go_wp2_with fail
      refine (may_is (x0 := true) (x1 := true) (x2 := true) (k := 1) (u := false) (r := true) rfl _).mono ?_; rintro e w' ⟨rfl, hb⟩
      replace R := R.step hb; clear hb q0 q1 q2 q3 q4 q5 q6 q7 q8 q9 q10 q11; obtain ⟨q0, q1, q2, q3, q4, q5, q6, q7, q8, q9, q10, q11⟩ := R.cells
      go_wp2_with fail
      refine (may_is (x0 := false) (x1 := true) (x2 := true) (k := 1) (u := false) (r := false) rfl _).mono ?_; rintro e w' ⟨rfl, hb⟩
      replace R := R.step hb; clear hb q0 q1 q2 q3 q4 q5 q6 q7 q8 q9 q10 q11; obtain ⟨q0, q1, q2, q3, q4, q5, q6, q7, q8, q9, q10, q11⟩ := R.cells
      go_wp2_with fail
      refine (may_is (x0 := true) (x1 := true) (x2 := false) (k := 1) (u := false) (r := true) rfl _).mono ?_; rintro e w' ⟨rfl, hb⟩
      replace R := R.step hb; clear hb q0 q1 q2 q3 q4 q5 q6 q7 q8 q9 q10 q11; obtain ⟨q0, q1, q2, q3, q4, q5, q6, q7, q8, q9, q10, q11⟩ := R.cells
      go_wp2_with fail
      refine (may_is (x0 := true) (x1 := false) (x2 := true) (k := 1) (u := false) (r := true) rfl _).mono ?_; rintro e w' ⟨rfl, hb⟩
      replace R := R.step hb; clear hb q0 q1 q2 q3 q4 q5 q6 q7 q8 q9 q10 q11; obtain ⟨q0, q1, q2, q3, q4, q5, q6, q7, q8, q9, q10, q11⟩ := R.cells
      go_wp2_with fail
      go_roundw
      case rel => exact ⟨2, by omega, by go_num, R⟩
      case measure => simp [intOf]
    · go_wp2_with fail
      refine (may_is (x0 := true) (x1 := true) (x2 := true) (k := 2) (u := false) (r := true) rfl _).mono ?_; rintro e w' ⟨rfl, hb⟩
      replace R := R.step hb; clear hb q0 q1 q2 q3 q4 q5 q6 q7 q8 q9 q10 q11; obtain ⟨q0, q1, q2, q3, q4, q5, q6, q7, q8, q9, q10, q11⟩ := R.cells
      go_wp2_with fail
      refine (may_is (x0 := false) (x1 := true) (x2 := true) (k := 2) (u := false) (r := true) rfl _).mono ?_; rintro e w' ⟨rfl, hb⟩
      replace R := R.step hb; clear hb q0 q1 q2 q3 q4 q5 q6 q7 q8 q9 q10 q11; obtain ⟨q0, q1, q2, q3, q4, q5, q6, q7, q8, q9, q10, q11⟩ := R.cells
      go_wp2_with fail
      refine (may_is (x0 := true) (x1 := true) (x2 := false) (k := 2) (u := false) (r := false) rfl _).mono ?_; rintro e w' ⟨rfl, hb⟩
      replace R := R.step hb; clear hb q0 q1 q2 q3 q4 q5 q6 q7 q8 q9 q10 q11; obtain ⟨q0, q1, q2, q3, q4, q5, q6, q7, q8, q9, q10, q11⟩ := R.cells
      go_wp2_with fail
      refine (may_is (x0 := true) (x1 := false) (x2 := true) (k := 2) (u := false) (r := true) rfl _).mono ?_; rintro e w' ⟨rfl, hb⟩
      replace R := R.step hb; clear hb q0 q1 q2 q3 q4 q5 q6 q7 q8 q9 q10 q11; obtain ⟨q0, q1, q2, q3, q4, q5, q6, q7, q8, q9, q10, q11⟩ := R.cells
      go_wp2_with fail
      go_roundw
      case rel => exact ⟨3, by omega, by go_num, R⟩
      case measure => simp [intOf]
    · go_wp2_with fail
      go_ret
      exact ⟨rfl, R.below⟩

set_option maxHeartbeats 8000000 in
set_option maxRecDepth 100000 in
theorem way1 (w : World) :
    Calls Try.prog 9 #[.bool true] w fun e w' => e = .returned (.bool true) ∧ Below w.heap.size w w' := by
  go_enter Try.func9, Try.ntmps9
  go_wp2_with fail
  refine (head_any _).mono ?_; rintro e w1 ⟨rfl, hb1⟩
  go_wp2_with fail
  refine (all_any _).mono ?_; rintro e w2 ⟨rfl, hb2⟩
  have R := start w w1 w2 hb1 hb2
  clear hb1 hb2
  go_wp2_with fail
  go_loopw [8] (fun i wr => ∃ k : Nat, k ≤ 3 ∧ i = .int .i64 k ∧ Rest w w2.heap.size wr) (fun i _ => 3 - (intOf i).toNat)
  case atStart => exact ⟨0, by omega, rfl, R⟩
  case round =>
    clear R
    obtain ⟨k, hk, rfl, R⟩ := hrel
    obtain ⟨q0, q1, q2, q3, q4, q5, q6, q7, q8, q9, q10, q11⟩ := R.cells
    rcases (by omega : k = 0 ∨ k = 1 ∨ k = 2 ∨ k = 3) with rfl | rfl | rfl | rfl
    · go_wp2_with fail
      refine (may_is (x0 := true) (x1 := true) (x2 := true) (k := 0) (u := true) (r := true) rfl _).mono ?_; rintro e w' ⟨rfl, hb⟩
      replace R := R.step hb; clear hb q0 q1 q2 q3 q4 q5 q6 q7 q8 q9 q10 q11; obtain ⟨q0, q1, q2, q3, q4, q5, q6, q7, q8, q9, q10, q11⟩ := R.cells
      go_wp2_with fail
      refine (may_is (x0 := false) (x1 := true) (x2 := true) (k := 0) (u := true) (r := true) rfl _).mono ?_; rintro e w' ⟨rfl, hb⟩
      replace R := R.step hb; clear hb q0 q1 q2 q3 q4 q5 q6 q7 q8 q9 q10 q11; obtain ⟨q0, q1, q2, q3, q4, q5, q6, q7, q8, q9, q10, q11⟩ := R.cells
      go_wp2_with fail
      refine (may_is (x0 := true) (x1 := true) (x2 := false) (k := 0) (u := true) (r := true) rfl _).mono ?_; rintro e w' ⟨rfl, hb⟩
      replace R := R.step hb; clear hb q0 q1 q2 q3 q4 q5 q6 q7 q8 q9 q10 q11; obtain ⟨q0, q1, q2, q3, q4, q5, q6, q7, q8, q9, q10, q11⟩ := R.cells
      go_wp2_with fail
      refine (may_is (x0 := true) (x1 := false) (x2 := true) (k := 0) (u := true) (r := false) rfl _).mono ?_; rintro e w' ⟨rfl, hb⟩
      replace R := R.step hb; clear hb q0 q1 q2 q3 q4 q5 q6 q7 q8 q9 q10 q11; obtain ⟨q0, q1, q2, q3, q4, q5, q6, q7, q8, q9, q10, q11⟩ := R.cells
      go_wp2_with fail
      go_roundw
      case rel => exact ⟨1, by omega, by go_num, R⟩
      case measure => simp [intOf]
    · go_wp2_with fail
      refine (may_is (x0 := true) (x1 := true) (x2 := true) (k := 1) (u := true) (r := true) rfl _).mono ?_; rintro e w' ⟨rfl, hb⟩
      replace R := R.step hb; clear hb q0 q1 q2 q3 q4 q5 q6 q7 q8 q9 q10 q11; obtain ⟨q0, q1, q2, q3, q4, q5, q6, q7, q8, q9, q10, q11⟩ := R.cells
      go_wp2_with fail
      refine (may_is (x0 := false) (x1 := true) (x2 := true) (k := 1) (u := true) (r := false) rfl _).mono ?_; rintro e w' ⟨rfl, hb⟩
      replace R := R.step hb; clear hb q0 q1 q2 q3 q4 q5 q6 q7 q8 q9 q10 q11; obtain ⟨q0, q1, q2, q3, q4, q5, q6, q7, q8, q9, q10, q11⟩ := R.cells
      go_wp2_with fail
      refine (may_is (x0 := true) (x1 := true) (x2 := false) (k := 1) (u := true) (r := true) rfl _).mono ?_; rintro e w' ⟨rfl, hb⟩
      replace R := R.step hb; clear hb q0 q1 q2 q3 q4 q5 q6 q7 q8 q9 q10 q11; obtain ⟨q0, q1, q2, q3, q4, q5, q6, q7, q8, q9, q10, q11⟩ := R.cells
      go_wp2_with fail
      refine (may_is (x0 := true) (x1 := false) (x2 := true) (k := 1) (u := true) (r := false) rfl _).mono ?_; rintro e w' ⟨rfl, hb⟩
      replace R := R.step hb; clear hb q0 q1 q2 q3 q4 q5 q6 q7 q8 q9 q10 q11; obtain ⟨q0, q1, q2, q3, q4, q5, q6, q7, q8, q9, q10, q11⟩ := R.cells
      go_wp2_with fail
      go_roundw
      case rel => exact ⟨2, by omega, by go_num, R⟩
      case measure => simp [intOf]
    · go_wp2_with fail
      refine (may_is (x0 := true) (x1 := true) (x2 := true) (k := 2) (u := true) (r := true) rfl _).mono ?_; rintro e w' ⟨rfl, hb⟩
      replace R := R.step hb; clear hb q0 q1 q2 q3 q4 q5 q6 q7 q8 q9 q10 q11; obtain ⟨q0, q1, q2, q3, q4, q5, q6, q7, q8, q9, q10, q11⟩ := R.cells
      go_wp2_with fail
      refine (may_is (x0 := false) (x1 := true) (x2 := true) (k := 2) (u := true) (r := true) rfl _).mono ?_; rintro e w' ⟨rfl, hb⟩
      replace R := R.step hb; clear hb q0 q1 q2 q3 q4 q5 q6 q7 q8 q9 q10 q11; obtain ⟨q0, q1, q2, q3, q4, q5, q6, q7, q8, q9, q10, q11⟩ := R.cells
      go_wp2_with fail
      refine (may_is (x0 := true) (x1 := true) (x2 := false) (k := 2) (u := true) (r := false) rfl _).mono ?_; rintro e w' ⟨rfl, hb⟩
      replace R := R.step hb; clear hb q0 q1 q2 q3 q4 q5 q6 q7 q8 q9 q10 q11; obtain ⟨q0, q1, q2, q3, q4, q5, q6, q7, q8, q9, q10, q11⟩ := R.cells
      go_wp2_with fail
      refine (may_is (x0 := true) (x1 := false) (x2 := true) (k := 2) (u := true) (r := false) rfl _).mono ?_; rintro e w' ⟨rfl, hb⟩
      replace R := R.step hb; clear hb q0 q1 q2 q3 q4 q5 q6 q7 q8 q9 q10 q11; obtain ⟨q0, q1, q2, q3, q4, q5, q6, q7, q8, q9, q10, q11⟩ := R.cells
      go_wp2_with fail
      go_roundw
      case rel => exact ⟨3, by omega, by go_num, R⟩
      case measure => simp [intOf]
    · go_wp2_with fail
      go_ret
      exact ⟨rfl, R.below⟩

theorem walk (u : Bool) (w : World) : Calls Try.prog 9 #[.bool u] w fun e w' => e = .returned (.bool true) ∧ Below w.heap.size w w' := by
  cases u
  · exact way0 w
  · exact way1 w
end Go.Proofs.Ytiiaififiijcnaa.UsersWalk
