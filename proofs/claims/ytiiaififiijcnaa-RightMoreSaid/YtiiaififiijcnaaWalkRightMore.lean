/- Layer 6: the walk of RightMore over its callees' contracts; for every input. -/
import Derived.Test.YtiiaififiijcnaaFacts
import Derived.Test.YtiiaififiijcnaaBlk
namespace Go.Proofs.Ytiiaififiijcnaa.MoreWalk
open Go.RowKit Go.Proofs.Ytiiaififiijcnaa.PRightMeet Go.Proofs.YtiiaififiijcnaaW.PrintWords Go.Proofs.YtiiaififiijcnaaW.PrintLast Go.Proofs.YtiiaififiijcnaaW.PrintMore
open Go.Proofs.Ytiiaififiijcnaa.Facts
open Go.Proofs.Ytiiaififiijcnaa.Blks (Blk cells3)

/-- What every step keeps: the two boxes, and all that lay below. -/
structure Rest (w0 : World) (ga gb : Nat) (a0 a1 a2 b0 b1 b2 : Value) (W : World) : Prop where
  ha : Blk W ga 26 #[a0, a1, a2]
  hb : Blk W gb 26 #[b0, b1, b2]
  below : Below w0.heap.size w0 W
section
variable {w0 : World} {ga gb : Nat} {a0 a1 a2 b0 b1 b2 : Value} {W w' : World}
theorem Rest.step (h : Rest w0 ga gb a0 a1 a2 b0 b1 b2 W) (k : Below W.heap.size W w') : Rest w0 ga gb a0 a1 a2 b0 b1 b2 w' :=
  ⟨h.ha.below_ k, h.hb.below_ k, Blks.below_then h.below h.below.size k⟩
def Cells (ga gb : Nat) (a0 a1 a2 b0 b1 b2 : Value) (W : World) : Prop :=
  W.cell? ⟨ga, 0, none⟩ = some a0 ∧ W.cell? ⟨ga, 1, none⟩ = some a1 ∧ W.cell? ⟨ga, 2, none⟩ = some a2 ∧ W.cell? ⟨gb, 0, none⟩ = some b0 ∧ W.cell? ⟨gb, 1, none⟩ = some b1 ∧ W.cell? ⟨gb, 2, none⟩ = some b2
theorem Rest.cells (h : Rest w0 ga gb a0 a1 a2 b0 b1 b2 W) : Cells ga gb a0 a1 a2 b0 b1 b2 W :=
  ⟨h.ha.cell 0, h.ha.cell 1, h.ha.cell 2, h.hb.cell 0, h.hb.cell 1, h.hb.cell 2⟩
end

theorem under_is {x0 x1 x2 y0 y1 y2 r : Bool} (h : underB x0 x1 x2 y0 y1 y2 = r) (w : World) :
    Calls Try.prog 17 #[.agg #[.bool x0, .bool x1, .bool x2], .agg #[.bool y0, .bool y1, .bool y2]] w fun e w' => e = .returned (.bool r) ∧ Below w.heap.size w w' := h ▸ under_any x0 x1 x2 y0 y1 y2 w
theorem may_is {x0 x1 x2 : Bool} {k : Int} {u r : Bool} (h : mayB x0 x1 x2 k u = r) (w : World) :
    Calls Try.prog 19 #[.agg #[.bool x0, .bool x1, .bool x2], .int .i64 k, .bool u] w fun e w' => e = .returned (.bool r) ∧ Below w.heap.size w w' := h ▸ may_any x0 x1 x2 k u w

set_option maxHeartbeats 8000000 in
set_option maxRecDepth 100000 in
theorem way000 (a0 a1 a2 b0 b1 b2 : Bool) (kd : Int) (w : World) (hu : underB a0 a1 a2 b0 b1 b2 = false) (hma0 : mayB a0 a1 a2 kd false = false) (hma1 : mayB a0 a1 a2 kd true = false) (hall : ¬ (0 ≤ kd ∧ kd ≤ 2) → mayB true true true kd false = false) :
    Calls Try.prog 5 #[.agg #[.bool a0, .bool a1, .bool a2], .agg #[.bool b0, .bool b1, .bool b2], .int .i64 kd] w fun e w' => e = .returned (.bool true) ∧ Below w.heap.size w w' := by
  have Hall := Aside0.mk hall
  clear hall
  go_enter Try.func5, Try.ntmps5
  go_wp2_with fail
  refine (head_any _).mono ?_; rintro e w1 ⟨rfl, hb1⟩
  have z0 := (((Blk.new w 26 #[.bool a0, .bool a1, .bool a2]).alloc (.cells #[.bool b0, .bool b1, .bool b2] 26)).below_ hb1)
  have z1 := ((Blk.new (w.alloc (.cells #[.bool a0, .bool a1, .bool a2] 26)) 26 #[.bool b0, .bool b1, .bool b2]).below_ hb1)
  have z3 : Below w.heap.size w w1 := (((Below.refl _ _).alloc (Nat.le_refl _) _).alloc (by simp) _).trans (hb1.mono (by simp; omega))
  simp only [World.size_alloc] at z1
  have R : Rest w w.heap.size (w.heap.size + 1) (.bool a0) (.bool a1) (.bool a2) (.bool b0) (.bool b1) (.bool b2) w1 := ⟨z0, z1, z3⟩
  clear hb1 z0 z1 z3
  go_wp2_with fail
  go_loopw [8] (fun i wr => ∃ k : Nat, k ≤ 2 ∧ i = .int .i64 k ∧ Rest w w.heap.size (w.heap.size + 1) (.bool a0) (.bool a1) (.bool a2) (.bool b0) (.bool b1) (.bool b2) wr) (fun i _ => 2 - (intOf i).toNat)
  case atStart => exact ⟨0, by omega, rfl, R⟩
  case round =>
    clear R
    obtain ⟨k, hk, rfl, R⟩ := hrel
    obtain ⟨q0, q1, q2, q3, q4, q5⟩ := R.cells
    rcases (by omega : k = 0 ∨ k = 1 ∨ k = 2) with rfl | rfl | rfl
    · go_wp2_with fail
      refine (under_is hu _).mono ?_; rintro e w' ⟨rfl, hb⟩
      replace R := R.step hb; clear hb q0 q1 q2 q3 q4 q5; obtain ⟨q0, q1, q2, q3, q4, q5⟩ := R.cells
      go_wp2_with fail
      refine (may_is hma0 _).mono ?_; rintro e w' ⟨rfl, hb⟩
      replace R := R.step hb; clear hb q0 q1 q2 q3 q4 q5; obtain ⟨q0, q1, q2, q3, q4, q5⟩ := R.cells
      go_wp2_with fail
      go_roundw
      case rel => exact ⟨1, by omega, by go_num, R⟩
      case measure => simp [intOf]
    · go_wp2_with fail
      refine (under_is hu _).mono ?_; rintro e w' ⟨rfl, hb⟩
      replace R := R.step hb; clear hb q0 q1 q2 q3 q4 q5; obtain ⟨q0, q1, q2, q3, q4, q5⟩ := R.cells
      go_wp2_with fail
      refine (may_is hma1 _).mono ?_; rintro e w' ⟨rfl, hb⟩
      replace R := R.step hb; clear hb q0 q1 q2 q3 q4 q5; obtain ⟨q0, q1, q2, q3, q4, q5⟩ := R.cells
      go_wp2_with fail
      go_roundw
      case rel => exact ⟨2, by omega, by go_num, R⟩
      case measure => simp [intOf]
    · by_cases hlo : 0 ≤ kd
      · by_cases hhi : kd ≤ 2
        · go_wp2_with fail
          refine (may_is hma1 _).mono ?_; rintro e w' ⟨rfl, hb⟩
          replace R := R.step hb; clear hb q0 q1 q2 q3 q4 q5; obtain ⟨q0, q1, q2, q3, q4, q5⟩ := R.cells
          go_wp2_with fail
          go_ret
          exact ⟨rfl, R.below⟩
        · go_wp2_with fail
          refine (may_is hma1 _).mono ?_; rintro e w' ⟨rfl, hb⟩
          replace R := R.step hb; clear hb q0 q1 q2 q3 q4 q5; obtain ⟨q0, q1, q2, q3, q4, q5⟩ := R.cells
          have hal := Hall.out (by omega)
          go_wp2_with fail
          refine (all_any _).mono ?_; rintro e w' ⟨rfl, hb⟩
          replace R := R.step hb; clear hb q0 q1 q2 q3 q4 q5; obtain ⟨q0, q1, q2, q3, q4, q5⟩ := R.cells
          go_wp2_with fail
          refine (may_is hal _).mono ?_; rintro e w' ⟨rfl, hb⟩
          replace R := R.step hb; clear hb q0 q1 q2 q3 q4 q5; obtain ⟨q0, q1, q2, q3, q4, q5⟩ := R.cells
          go_wp2_with fail
          go_ret
          exact ⟨rfl, R.below⟩
      · go_wp2_with fail
        refine (may_is hma1 _).mono ?_; rintro e w' ⟨rfl, hb⟩
        replace R := R.step hb; clear hb q0 q1 q2 q3 q4 q5; obtain ⟨q0, q1, q2, q3, q4, q5⟩ := R.cells
        have hal := Hall.out (by omega)
        go_wp2_with fail
        refine (all_any _).mono ?_; rintro e w' ⟨rfl, hb⟩
        replace R := R.step hb; clear hb q0 q1 q2 q3 q4 q5; obtain ⟨q0, q1, q2, q3, q4, q5⟩ := R.cells
        go_wp2_with fail
        refine (may_is hal _).mono ?_; rintro e w' ⟨rfl, hb⟩
        replace R := R.step hb; clear hb q0 q1 q2 q3 q4 q5; obtain ⟨q0, q1, q2, q3, q4, q5⟩ := R.cells
        go_wp2_with fail
        go_ret
        exact ⟨rfl, R.below⟩

set_option maxHeartbeats 8000000 in
set_option maxRecDepth 100000 in
theorem way010 (a0 a1 a2 b0 b1 b2 : Bool) (kd : Int) (w : World) (hu : underB a0 a1 a2 b0 b1 b2 = false) (hma0 : mayB a0 a1 a2 kd false = true) (hma1 : mayB a0 a1 a2 kd true = false) (hla0 : mayB a0 a1 a2 0 false = true) (hall : ¬ (0 ≤ kd ∧ kd ≤ 2) → mayB true true true kd false = false) :
    Calls Try.prog 5 #[.agg #[.bool a0, .bool a1, .bool a2], .agg #[.bool b0, .bool b1, .bool b2], .int .i64 kd] w fun e w' => e = .returned (.bool true) ∧ Below w.heap.size w w' := by
  have Hall := Aside0.mk hall
  clear hall
  go_enter Try.func5, Try.ntmps5
  go_wp2_with fail
  refine (head_any _).mono ?_; rintro e w1 ⟨rfl, hb1⟩
  have z0 := (((Blk.new w 26 #[.bool a0, .bool a1, .bool a2]).alloc (.cells #[.bool b0, .bool b1, .bool b2] 26)).below_ hb1)
  have z1 := ((Blk.new (w.alloc (.cells #[.bool a0, .bool a1, .bool a2] 26)) 26 #[.bool b0, .bool b1, .bool b2]).below_ hb1)
  have z3 : Below w.heap.size w w1 := (((Below.refl _ _).alloc (Nat.le_refl _) _).alloc (by simp) _).trans (hb1.mono (by simp; omega))
  simp only [World.size_alloc] at z1
  have R : Rest w w.heap.size (w.heap.size + 1) (.bool a0) (.bool a1) (.bool a2) (.bool b0) (.bool b1) (.bool b2) w1 := ⟨z0, z1, z3⟩
  clear hb1 z0 z1 z3
  go_wp2_with fail
  go_loopw [8] (fun i wr => ∃ k : Nat, k ≤ 2 ∧ i = .int .i64 k ∧ Rest w w.heap.size (w.heap.size + 1) (.bool a0) (.bool a1) (.bool a2) (.bool b0) (.bool b1) (.bool b2) wr) (fun i _ => 2 - (intOf i).toNat)
  case atStart => exact ⟨0, by omega, rfl, R⟩
  case round =>
    clear R
    obtain ⟨k, hk, rfl, R⟩ := hrel
    obtain ⟨q0, q1, q2, q3, q4, q5⟩ := R.cells
    rcases (by omega : k = 0 ∨ k = 1 ∨ k = 2) with rfl | rfl | rfl
    · go_wp2_with fail
      refine (under_is hu _).mono ?_; rintro e w' ⟨rfl, hb⟩
      replace R := R.step hb; clear hb q0 q1 q2 q3 q4 q5; obtain ⟨q0, q1, q2, q3, q4, q5⟩ := R.cells
      go_wp2_with fail
      refine (may_is hma0 _).mono ?_; rintro e w' ⟨rfl, hb⟩
      replace R := R.step hb; clear hb q0 q1 q2 q3 q4 q5; obtain ⟨q0, q1, q2, q3, q4, q5⟩ := R.cells
      go_wp2_with fail
      refine (may_is hla0 _).mono ?_; rintro e w' ⟨rfl, hb⟩
      replace R := R.step hb; clear hb q0 q1 q2 q3 q4 q5; obtain ⟨q0, q1, q2, q3, q4, q5⟩ := R.cells
      go_wp2_with fail
      go_roundw
      case rel => exact ⟨1, by omega, by go_num, R⟩
      case measure => simp [intOf]
    · go_wp2_with fail
      refine (under_is hu _).mono ?_; rintro e w' ⟨rfl, hb⟩
      replace R := R.step hb; clear hb q0 q1 q2 q3 q4 q5; obtain ⟨q0, q1, q2, q3, q4, q5⟩ := R.cells
      go_wp2_with fail
      refine (may_is hma1 _).mono ?_; rintro e w' ⟨rfl, hb⟩
      replace R := R.step hb; clear hb q0 q1 q2 q3 q4 q5; obtain ⟨q0, q1, q2, q3, q4, q5⟩ := R.cells
      go_wp2_with fail
      go_roundw
      case rel => exact ⟨2, by omega, by go_num, R⟩
      case measure => simp [intOf]
    · by_cases hlo : 0 ≤ kd
      · by_cases hhi : kd ≤ 2
        · go_wp2_with fail
          refine (may_is hma1 _).mono ?_; rintro e w' ⟨rfl, hb⟩
          replace R := R.step hb; clear hb q0 q1 q2 q3 q4 q5; obtain ⟨q0, q1, q2, q3, q4, q5⟩ := R.cells
          go_wp2_with fail
          go_ret
          exact ⟨rfl, R.below⟩
        · go_wp2_with fail
          refine (may_is hma1 _).mono ?_; rintro e w' ⟨rfl, hb⟩
          replace R := R.step hb; clear hb q0 q1 q2 q3 q4 q5; obtain ⟨q0, q1, q2, q3, q4, q5⟩ := R.cells
          have hal := Hall.out (by omega)
          go_wp2_with fail
          refine (all_any _).mono ?_; rintro e w' ⟨rfl, hb⟩
          replace R := R.step hb; clear hb q0 q1 q2 q3 q4 q5; obtain ⟨q0, q1, q2, q3, q4, q5⟩ := R.cells
          go_wp2_with fail
          refine (may_is hal _).mono ?_; rintro e w' ⟨rfl, hb⟩
          replace R := R.step hb; clear hb q0 q1 q2 q3 q4 q5; obtain ⟨q0, q1, q2, q3, q4, q5⟩ := R.cells
          go_wp2_with fail
          go_ret
          exact ⟨rfl, R.below⟩
      · go_wp2_with fail
        refine (may_is hma1 _).mono ?_; rintro e w' ⟨rfl, hb⟩
        replace R := R.step hb; clear hb q0 q1 q2 q3 q4 q5; obtain ⟨q0, q1, q2, q3, q4, q5⟩ := R.cells
        have hal := Hall.out (by omega)
        go_wp2_with fail
        refine (all_any _).mono ?_; rintro e w' ⟨rfl, hb⟩
        replace R := R.step hb; clear hb q0 q1 q2 q3 q4 q5; obtain ⟨q0, q1, q2, q3, q4, q5⟩ := R.cells
        go_wp2_with fail
        refine (may_is hal _).mono ?_; rintro e w' ⟨rfl, hb⟩
        replace R := R.step hb; clear hb q0 q1 q2 q3 q4 q5; obtain ⟨q0, q1, q2, q3, q4, q5⟩ := R.cells
        go_wp2_with fail
        go_ret
        exact ⟨rfl, R.below⟩

set_option maxHeartbeats 8000000 in
set_option maxRecDepth 100000 in
theorem way011 (a0 a1 a2 b0 b1 b2 : Bool) (kd : Int) (w : World) (hu : underB a0 a1 a2 b0 b1 b2 = false) (hma0 : mayB a0 a1 a2 kd false = true) (hma1 : mayB a0 a1 a2 kd true = true) (hla0 : mayB a0 a1 a2 0 false = true) (hla1 : mayB a0 a1 a2 0 true = true) (hall : ¬ (0 ≤ kd ∧ kd ≤ 2) → mayB true true true kd false = false) :
    Calls Try.prog 5 #[.agg #[.bool a0, .bool a1, .bool a2], .agg #[.bool b0, .bool b1, .bool b2], .int .i64 kd] w fun e w' => e = .returned (.bool true) ∧ Below w.heap.size w w' := by
  have Hall := Aside0.mk hall
  clear hall
  go_enter Try.func5, Try.ntmps5
  go_wp2_with fail
  refine (head_any _).mono ?_; rintro e w1 ⟨rfl, hb1⟩
  have z0 := (((Blk.new w 26 #[.bool a0, .bool a1, .bool a2]).alloc (.cells #[.bool b0, .bool b1, .bool b2] 26)).below_ hb1)
  have z1 := ((Blk.new (w.alloc (.cells #[.bool a0, .bool a1, .bool a2] 26)) 26 #[.bool b0, .bool b1, .bool b2]).below_ hb1)
  have z3 : Below w.heap.size w w1 := (((Below.refl _ _).alloc (Nat.le_refl _) _).alloc (by simp) _).trans (hb1.mono (by simp; omega))
  simp only [World.size_alloc] at z1
  have R : Rest w w.heap.size (w.heap.size + 1) (.bool a0) (.bool a1) (.bool a2) (.bool b0) (.bool b1) (.bool b2) w1 := ⟨z0, z1, z3⟩
  clear hb1 z0 z1 z3
  go_wp2_with fail
  go_loopw [8] (fun i wr => ∃ k : Nat, k ≤ 2 ∧ i = .int .i64 k ∧ Rest w w.heap.size (w.heap.size + 1) (.bool a0) (.bool a1) (.bool a2) (.bool b0) (.bool b1) (.bool b2) wr) (fun i _ => 2 - (intOf i).toNat)
  case atStart => exact ⟨0, by omega, rfl, R⟩
  case round =>
    clear R
    obtain ⟨k, hk, rfl, R⟩ := hrel
    obtain ⟨q0, q1, q2, q3, q4, q5⟩ := R.cells
    rcases (by omega : k = 0 ∨ k = 1 ∨ k = 2) with rfl | rfl | rfl
    · go_wp2_with fail
      refine (under_is hu _).mono ?_; rintro e w' ⟨rfl, hb⟩
      replace R := R.step hb; clear hb q0 q1 q2 q3 q4 q5; obtain ⟨q0, q1, q2, q3, q4, q5⟩ := R.cells
      go_wp2_with fail
      refine (may_is hma0 _).mono ?_; rintro e w' ⟨rfl, hb⟩
      replace R := R.step hb; clear hb q0 q1 q2 q3 q4 q5; obtain ⟨q0, q1, q2, q3, q4, q5⟩ := R.cells
      go_wp2_with fail
      refine (may_is hla0 _).mono ?_; rintro e w' ⟨rfl, hb⟩
      replace R := R.step hb; clear hb q0 q1 q2 q3 q4 q5; obtain ⟨q0, q1, q2, q3, q4, q5⟩ := R.cells
      go_wp2_with fail
      go_roundw
      case rel => exact ⟨1, by omega, by go_num, R⟩
      case measure => simp [intOf]
    · go_wp2_with fail
      refine (under_is hu _).mono ?_; rintro e w' ⟨rfl, hb⟩
      replace R := R.step hb; clear hb q0 q1 q2 q3 q4 q5; obtain ⟨q0, q1, q2, q3, q4, q5⟩ := R.cells
      go_wp2_with fail
      refine (may_is hma1 _).mono ?_; rintro e w' ⟨rfl, hb⟩
      replace R := R.step hb; clear hb q0 q1 q2 q3 q4 q5; obtain ⟨q0, q1, q2, q3, q4, q5⟩ := R.cells
      go_wp2_with fail
      refine (may_is hla1 _).mono ?_; rintro e w' ⟨rfl, hb⟩
      replace R := R.step hb; clear hb q0 q1 q2 q3 q4 q5; obtain ⟨q0, q1, q2, q3, q4, q5⟩ := R.cells
      go_wp2_with fail
      go_roundw
      case rel => exact ⟨2, by omega, by go_num, R⟩
      case measure => simp [intOf]
    · by_cases hlo : 0 ≤ kd
      · by_cases hhi : kd ≤ 2
        · go_wp2_with fail
          refine (may_is hma1 _).mono ?_; rintro e w' ⟨rfl, hb⟩
          replace R := R.step hb; clear hb q0 q1 q2 q3 q4 q5; obtain ⟨q0, q1, q2, q3, q4, q5⟩ := R.cells
          go_wp2_with fail
          refine (may_is hma0 _).mono ?_; rintro e w' ⟨rfl, hb⟩
          replace R := R.step hb; clear hb q0 q1 q2 q3 q4 q5; obtain ⟨q0, q1, q2, q3, q4, q5⟩ := R.cells
          go_wp2_with fail
          go_ret
          exact ⟨rfl, R.below⟩
        · go_wp2_with fail
          refine (may_is hma1 _).mono ?_; rintro e w' ⟨rfl, hb⟩
          replace R := R.step hb; clear hb q0 q1 q2 q3 q4 q5; obtain ⟨q0, q1, q2, q3, q4, q5⟩ := R.cells
          go_wp2_with fail
          refine (may_is hma0 _).mono ?_; rintro e w' ⟨rfl, hb⟩
          replace R := R.step hb; clear hb q0 q1 q2 q3 q4 q5; obtain ⟨q0, q1, q2, q3, q4, q5⟩ := R.cells
          have hal := Hall.out (by omega)
          go_wp2_with fail
          refine (all_any _).mono ?_; rintro e w' ⟨rfl, hb⟩
          replace R := R.step hb; clear hb q0 q1 q2 q3 q4 q5; obtain ⟨q0, q1, q2, q3, q4, q5⟩ := R.cells
          go_wp2_with fail
          refine (may_is hal _).mono ?_; rintro e w' ⟨rfl, hb⟩
          replace R := R.step hb; clear hb q0 q1 q2 q3 q4 q5; obtain ⟨q0, q1, q2, q3, q4, q5⟩ := R.cells
          go_wp2_with fail
          go_ret
          exact ⟨rfl, R.below⟩
      · go_wp2_with fail
        refine (may_is hma1 _).mono ?_; rintro e w' ⟨rfl, hb⟩
        replace R := R.step hb; clear hb q0 q1 q2 q3 q4 q5; obtain ⟨q0, q1, q2, q3, q4, q5⟩ := R.cells
        go_wp2_with fail
        refine (may_is hma0 _).mono ?_; rintro e w' ⟨rfl, hb⟩
        replace R := R.step hb; clear hb q0 q1 q2 q3 q4 q5; obtain ⟨q0, q1, q2, q3, q4, q5⟩ := R.cells
        have hal := Hall.out (by omega)
        go_wp2_with fail
        refine (all_any _).mono ?_; rintro e w' ⟨rfl, hb⟩
        replace R := R.step hb; clear hb q0 q1 q2 q3 q4 q5; obtain ⟨q0, q1, q2, q3, q4, q5⟩ := R.cells
        go_wp2_with fail
        refine (may_is hal _).mono ?_; rintro e w' ⟨rfl, hb⟩
        replace R := R.step hb; clear hb q0 q1 q2 q3 q4 q5; obtain ⟨q0, q1, q2, q3, q4, q5⟩ := R.cells
        go_wp2_with fail
        go_ret
        exact ⟨rfl, R.below⟩

set_option maxHeartbeats 8000000 in
set_option maxRecDepth 100000 in
theorem way100 (a0 a1 a2 b0 b1 b2 : Bool) (kd : Int) (w : World) (hu : underB a0 a1 a2 b0 b1 b2 = true) (hma0 : mayB a0 a1 a2 kd false = false) (hma1 : mayB a0 a1 a2 kd true = false) (hall : ¬ (0 ≤ kd ∧ kd ≤ 2) → mayB true true true kd false = false) :
    Calls Try.prog 5 #[.agg #[.bool a0, .bool a1, .bool a2], .agg #[.bool b0, .bool b1, .bool b2], .int .i64 kd] w fun e w' => e = .returned (.bool true) ∧ Below w.heap.size w w' := by
  have Hall := Aside0.mk hall
  clear hall
  go_enter Try.func5, Try.ntmps5
  go_wp2_with fail
  refine (head_any _).mono ?_; rintro e w1 ⟨rfl, hb1⟩
  have z0 := (((Blk.new w 26 #[.bool a0, .bool a1, .bool a2]).alloc (.cells #[.bool b0, .bool b1, .bool b2] 26)).below_ hb1)
  have z1 := ((Blk.new (w.alloc (.cells #[.bool a0, .bool a1, .bool a2] 26)) 26 #[.bool b0, .bool b1, .bool b2]).below_ hb1)
  have z3 : Below w.heap.size w w1 := (((Below.refl _ _).alloc (Nat.le_refl _) _).alloc (by simp) _).trans (hb1.mono (by simp; omega))
  simp only [World.size_alloc] at z1
  have R : Rest w w.heap.size (w.heap.size + 1) (.bool a0) (.bool a1) (.bool a2) (.bool b0) (.bool b1) (.bool b2) w1 := ⟨z0, z1, z3⟩
  clear hb1 z0 z1 z3
  go_wp2_with fail
  go_loopw [8] (fun i wr => ∃ k : Nat, k ≤ 2 ∧ i = .int .i64 k ∧ Rest w w.heap.size (w.heap.size + 1) (.bool a0) (.bool a1) (.bool a2) (.bool b0) (.bool b1) (.bool b2) wr) (fun i _ => 2 - (intOf i).toNat)
  case atStart => exact ⟨0, by omega, rfl, R⟩
  case round =>
    clear R
    obtain ⟨k, hk, rfl, R⟩ := hrel
    obtain ⟨q0, q1, q2, q3, q4, q5⟩ := R.cells
    rcases (by omega : k = 0 ∨ k = 1 ∨ k = 2) with rfl | rfl | rfl
    · go_wp2_with fail
      refine (under_is hu _).mono ?_; rintro e w' ⟨rfl, hb⟩
      replace R := R.step hb; clear hb q0 q1 q2 q3 q4 q5; obtain ⟨q0, q1, q2, q3, q4, q5⟩ := R.cells
      go_wp2_with fail
      refine (may_is hma0 _).mono ?_; rintro e w' ⟨rfl, hb⟩
      replace R := R.step hb; clear hb q0 q1 q2 q3 q4 q5; obtain ⟨q0, q1, q2, q3, q4, q5⟩ := R.cells
      go_wp2_with fail
      refine (may_is hma0 _).mono ?_; rintro e w' ⟨rfl, hb⟩
      replace R := R.step hb; clear hb q0 q1 q2 q3 q4 q5; obtain ⟨q0, q1, q2, q3, q4, q5⟩ := R.cells
      go_wp2_with fail
      go_roundw
      case rel => exact ⟨1, by omega, by go_num, R⟩
      case measure => simp [intOf]
    · go_wp2_with fail
      refine (under_is hu _).mono ?_; rintro e w' ⟨rfl, hb⟩
      replace R := R.step hb; clear hb q0 q1 q2 q3 q4 q5; obtain ⟨q0, q1, q2, q3, q4, q5⟩ := R.cells
      go_wp2_with fail
      refine (may_is hma1 _).mono ?_; rintro e w' ⟨rfl, hb⟩
      replace R := R.step hb; clear hb q0 q1 q2 q3 q4 q5; obtain ⟨q0, q1, q2, q3, q4, q5⟩ := R.cells
      go_wp2_with fail
      refine (may_is hma1 _).mono ?_; rintro e w' ⟨rfl, hb⟩
      replace R := R.step hb; clear hb q0 q1 q2 q3 q4 q5; obtain ⟨q0, q1, q2, q3, q4, q5⟩ := R.cells
      go_wp2_with fail
      go_roundw
      case rel => exact ⟨2, by omega, by go_num, R⟩
      case measure => simp [intOf]
    · by_cases hlo : 0 ≤ kd
      · by_cases hhi : kd ≤ 2
        · go_wp2_with fail
          refine (may_is hma1 _).mono ?_; rintro e w' ⟨rfl, hb⟩
          replace R := R.step hb; clear hb q0 q1 q2 q3 q4 q5; obtain ⟨q0, q1, q2, q3, q4, q5⟩ := R.cells
          go_wp2_with fail
          go_ret
          exact ⟨rfl, R.below⟩
        · go_wp2_with fail
          refine (may_is hma1 _).mono ?_; rintro e w' ⟨rfl, hb⟩
          replace R := R.step hb; clear hb q0 q1 q2 q3 q4 q5; obtain ⟨q0, q1, q2, q3, q4, q5⟩ := R.cells
          have hal := Hall.out (by omega)
          go_wp2_with fail
          refine (all_any _).mono ?_; rintro e w' ⟨rfl, hb⟩
          replace R := R.step hb; clear hb q0 q1 q2 q3 q4 q5; obtain ⟨q0, q1, q2, q3, q4, q5⟩ := R.cells
          go_wp2_with fail
          refine (may_is hal _).mono ?_; rintro e w' ⟨rfl, hb⟩
          replace R := R.step hb; clear hb q0 q1 q2 q3 q4 q5; obtain ⟨q0, q1, q2, q3, q4, q5⟩ := R.cells
          go_wp2_with fail
          go_ret
          exact ⟨rfl, R.below⟩
      · go_wp2_with fail
        refine (may_is hma1 _).mono ?_; rintro e w' ⟨rfl, hb⟩
        replace R := R.step hb; clear hb q0 q1 q2 q3 q4 q5; obtain ⟨q0, q1, q2, q3, q4, q5⟩ := R.cells
        have hal := Hall.out (by omega)
        go_wp2_with fail
        refine (all_any _).mono ?_; rintro e w' ⟨rfl, hb⟩
        replace R := R.step hb; clear hb q0 q1 q2 q3 q4 q5; obtain ⟨q0, q1, q2, q3, q4, q5⟩ := R.cells
        go_wp2_with fail
        refine (may_is hal _).mono ?_; rintro e w' ⟨rfl, hb⟩
        replace R := R.step hb; clear hb q0 q1 q2 q3 q4 q5; obtain ⟨q0, q1, q2, q3, q4, q5⟩ := R.cells
        go_wp2_with fail
        go_ret
        exact ⟨rfl, R.below⟩

set_option maxHeartbeats 8000000 in
set_option maxRecDepth 100000 in
theorem way110 (a0 a1 a2 b0 b1 b2 : Bool) (kd : Int) (w : World) (hu : underB a0 a1 a2 b0 b1 b2 = true) (hma0 : mayB a0 a1 a2 kd false = true) (hma1 : mayB a0 a1 a2 kd true = false) (hla0 : mayB a0 a1 a2 0 false = true) (hmb0 : mayB b0 b1 b2 kd false = true) (hall : ¬ (0 ≤ kd ∧ kd ≤ 2) → mayB true true true kd false = false) :
    Calls Try.prog 5 #[.agg #[.bool a0, .bool a1, .bool a2], .agg #[.bool b0, .bool b1, .bool b2], .int .i64 kd] w fun e w' => e = .returned (.bool true) ∧ Below w.heap.size w w' := by
  have Hall := Aside0.mk hall
  clear hall
  go_enter Try.func5, Try.ntmps5
  go_wp2_with fail
  refine (head_any _).mono ?_; rintro e w1 ⟨rfl, hb1⟩
  have z0 := (((Blk.new w 26 #[.bool a0, .bool a1, .bool a2]).alloc (.cells #[.bool b0, .bool b1, .bool b2] 26)).below_ hb1)
  have z1 := ((Blk.new (w.alloc (.cells #[.bool a0, .bool a1, .bool a2] 26)) 26 #[.bool b0, .bool b1, .bool b2]).below_ hb1)
  have z3 : Below w.heap.size w w1 := (((Below.refl _ _).alloc (Nat.le_refl _) _).alloc (by simp) _).trans (hb1.mono (by simp; omega))
  simp only [World.size_alloc] at z1
  have R : Rest w w.heap.size (w.heap.size + 1) (.bool a0) (.bool a1) (.bool a2) (.bool b0) (.bool b1) (.bool b2) w1 := ⟨z0, z1, z3⟩
  clear hb1 z0 z1 z3
  go_wp2_with fail
  go_loopw [8] (fun i wr => ∃ k : Nat, k ≤ 2 ∧ i = .int .i64 k ∧ Rest w w.heap.size (w.heap.size + 1) (.bool a0) (.bool a1) (.bool a2) (.bool b0) (.bool b1) (.bool b2) wr) (fun i _ => 2 - (intOf i).toNat)
  case atStart => exact ⟨0, by omega, rfl, R⟩
  case round =>
    clear R
    obtain ⟨k, hk, rfl, R⟩ := hrel
    obtain ⟨q0, q1, q2, q3, q4, q5⟩ := R.cells
    rcases (by omega : k = 0 ∨ k = 1 ∨ k = 2) with rfl | rfl | rfl
    · go_wp2_with fail
      refine (under_is hu _).mono ?_; rintro e w' ⟨rfl, hb⟩
      replace R := R.step hb; clear hb q0 q1 q2 q3 q4 q5; obtain ⟨q0, q1, q2, q3, q4, q5⟩ := R.cells
      go_wp2_with fail
      refine (may_is hma0 _).mono ?_; rintro e w' ⟨rfl, hb⟩
      replace R := R.step hb; clear hb q0 q1 q2 q3 q4 q5; obtain ⟨q0, q1, q2, q3, q4, q5⟩ := R.cells
      go_wp2_with fail
      refine (may_is hmb0 _).mono ?_; rintro e w' ⟨rfl, hb⟩
      replace R := R.step hb; clear hb q0 q1 q2 q3 q4 q5; obtain ⟨q0, q1, q2, q3, q4, q5⟩ := R.cells
      go_wp2_with fail
      refine (may_is hma0 _).mono ?_; rintro e w' ⟨rfl, hb⟩
      replace R := R.step hb; clear hb q0 q1 q2 q3 q4 q5; obtain ⟨q0, q1, q2, q3, q4, q5⟩ := R.cells
      go_wp2_with fail
      refine (may_is hla0 _).mono ?_; rintro e w' ⟨rfl, hb⟩
      replace R := R.step hb; clear hb q0 q1 q2 q3 q4 q5; obtain ⟨q0, q1, q2, q3, q4, q5⟩ := R.cells
      go_wp2_with fail
      go_roundw
      case rel => exact ⟨1, by omega, by go_num, R⟩
      case measure => simp [intOf]
    · go_wp2_with fail
      refine (under_is hu _).mono ?_; rintro e w' ⟨rfl, hb⟩
      replace R := R.step hb; clear hb q0 q1 q2 q3 q4 q5; obtain ⟨q0, q1, q2, q3, q4, q5⟩ := R.cells
      go_wp2_with fail
      refine (may_is hma1 _).mono ?_; rintro e w' ⟨rfl, hb⟩
      replace R := R.step hb; clear hb q0 q1 q2 q3 q4 q5; obtain ⟨q0, q1, q2, q3, q4, q5⟩ := R.cells
      go_wp2_with fail
      refine (may_is hma1 _).mono ?_; rintro e w' ⟨rfl, hb⟩
      replace R := R.step hb; clear hb q0 q1 q2 q3 q4 q5; obtain ⟨q0, q1, q2, q3, q4, q5⟩ := R.cells
      go_wp2_with fail
      go_roundw
      case rel => exact ⟨2, by omega, by go_num, R⟩
      case measure => simp [intOf]
    · by_cases hlo : 0 ≤ kd
      · by_cases hhi : kd ≤ 2
        · go_wp2_with fail
          refine (may_is hma1 _).mono ?_; rintro e w' ⟨rfl, hb⟩
          replace R := R.step hb; clear hb q0 q1 q2 q3 q4 q5; obtain ⟨q0, q1, q2, q3, q4, q5⟩ := R.cells
          go_wp2_with fail
          go_ret
          exact ⟨rfl, R.below⟩
        · go_wp2_with fail
          refine (may_is hma1 _).mono ?_; rintro e w' ⟨rfl, hb⟩
          replace R := R.step hb; clear hb q0 q1 q2 q3 q4 q5; obtain ⟨q0, q1, q2, q3, q4, q5⟩ := R.cells
          have hal := Hall.out (by omega)
          go_wp2_with fail
          refine (all_any _).mono ?_; rintro e w' ⟨rfl, hb⟩
          replace R := R.step hb; clear hb q0 q1 q2 q3 q4 q5; obtain ⟨q0, q1, q2, q3, q4, q5⟩ := R.cells
          go_wp2_with fail
          refine (may_is hal _).mono ?_; rintro e w' ⟨rfl, hb⟩
          replace R := R.step hb; clear hb q0 q1 q2 q3 q4 q5; obtain ⟨q0, q1, q2, q3, q4, q5⟩ := R.cells
          go_wp2_with fail
          go_ret
          exact ⟨rfl, R.below⟩
      · go_wp2_with fail
        refine (may_is hma1 _).mono ?_; rintro e w' ⟨rfl, hb⟩
        replace R := R.step hb; clear hb q0 q1 q2 q3 q4 q5; obtain ⟨q0, q1, q2, q3, q4, q5⟩ := R.cells
        have hal := Hall.out (by omega)
        go_wp2_with fail
        refine (all_any _).mono ?_; rintro e w' ⟨rfl, hb⟩
        replace R := R.step hb; clear hb q0 q1 q2 q3 q4 q5; obtain ⟨q0, q1, q2, q3, q4, q5⟩ := R.cells
        go_wp2_with fail
        refine (may_is hal _).mono ?_; rintro e w' ⟨rfl, hb⟩
        replace R := R.step hb; clear hb q0 q1 q2 q3 q4 q5; obtain ⟨q0, q1, q2, q3, q4, q5⟩ := R.cells
        go_wp2_with fail
        go_ret
        exact ⟨rfl, R.below⟩

set_option maxHeartbeats 8000000 in
set_option maxRecDepth 100000 in
theorem way111 (a0 a1 a2 b0 b1 b2 : Bool) (kd : Int) (w : World) (hu : underB a0 a1 a2 b0 b1 b2 = true) (hma0 : mayB a0 a1 a2 kd false = true) (hma1 : mayB a0 a1 a2 kd true = true) (hla0 : mayB a0 a1 a2 0 false = true) (hla1 : mayB a0 a1 a2 0 true = true) (hmb0 : mayB b0 b1 b2 kd false = true) (hmb1 : mayB b0 b1 b2 kd true = true) (hall : ¬ (0 ≤ kd ∧ kd ≤ 2) → mayB true true true kd false = false) :
    Calls Try.prog 5 #[.agg #[.bool a0, .bool a1, .bool a2], .agg #[.bool b0, .bool b1, .bool b2], .int .i64 kd] w fun e w' => e = .returned (.bool true) ∧ Below w.heap.size w w' := by
  have Hall := Aside0.mk hall
  clear hall
  go_enter Try.func5, Try.ntmps5
  go_wp2_with fail
  refine (head_any _).mono ?_; rintro e w1 ⟨rfl, hb1⟩
  have z0 := (((Blk.new w 26 #[.bool a0, .bool a1, .bool a2]).alloc (.cells #[.bool b0, .bool b1, .bool b2] 26)).below_ hb1)
  have z1 := ((Blk.new (w.alloc (.cells #[.bool a0, .bool a1, .bool a2] 26)) 26 #[.bool b0, .bool b1, .bool b2]).below_ hb1)
  have z3 : Below w.heap.size w w1 := (((Below.refl _ _).alloc (Nat.le_refl _) _).alloc (by simp) _).trans (hb1.mono (by simp; omega))
  simp only [World.size_alloc] at z1
  have R : Rest w w.heap.size (w.heap.size + 1) (.bool a0) (.bool a1) (.bool a2) (.bool b0) (.bool b1) (.bool b2) w1 := ⟨z0, z1, z3⟩
  clear hb1 z0 z1 z3
  go_wp2_with fail
  go_loopw [8] (fun i wr => ∃ k : Nat, k ≤ 2 ∧ i = .int .i64 k ∧ Rest w w.heap.size (w.heap.size + 1) (.bool a0) (.bool a1) (.bool a2) (.bool b0) (.bool b1) (.bool b2) wr) (fun i _ => 2 - (intOf i).toNat)
  case atStart => exact ⟨0, by omega, rfl, R⟩
  case round =>
    clear R
    obtain ⟨k, hk, rfl, R⟩ := hrel
    obtain ⟨q0, q1, q2, q3, q4, q5⟩ := R.cells
    rcases (by omega : k = 0 ∨ k = 1 ∨ k = 2) with rfl | rfl | rfl
    · go_wp2_with fail
      refine (under_is hu _).mono ?_; rintro e w' ⟨rfl, hb⟩
      replace R := R.step hb; clear hb q0 q1 q2 q3 q4 q5; obtain ⟨q0, q1, q2, q3, q4, q5⟩ := R.cells
      go_wp2_with fail
      refine (may_is hma0 _).mono ?_; rintro e w' ⟨rfl, hb⟩
      replace R := R.step hb; clear hb q0 q1 q2 q3 q4 q5; obtain ⟨q0, q1, q2, q3, q4, q5⟩ := R.cells
      go_wp2_with fail
      refine (may_is hmb0 _).mono ?_; rintro e w' ⟨rfl, hb⟩
      replace R := R.step hb; clear hb q0 q1 q2 q3 q4 q5; obtain ⟨q0, q1, q2, q3, q4, q5⟩ := R.cells
      go_wp2_with fail
      refine (may_is hma0 _).mono ?_; rintro e w' ⟨rfl, hb⟩
      replace R := R.step hb; clear hb q0 q1 q2 q3 q4 q5; obtain ⟨q0, q1, q2, q3, q4, q5⟩ := R.cells
      go_wp2_with fail
      refine (may_is hla0 _).mono ?_; rintro e w' ⟨rfl, hb⟩
      replace R := R.step hb; clear hb q0 q1 q2 q3 q4 q5; obtain ⟨q0, q1, q2, q3, q4, q5⟩ := R.cells
      go_wp2_with fail
      go_roundw
      case rel => exact ⟨1, by omega, by go_num, R⟩
      case measure => simp [intOf]
    · go_wp2_with fail
      refine (under_is hu _).mono ?_; rintro e w' ⟨rfl, hb⟩
      replace R := R.step hb; clear hb q0 q1 q2 q3 q4 q5; obtain ⟨q0, q1, q2, q3, q4, q5⟩ := R.cells
      go_wp2_with fail
      refine (may_is hma1 _).mono ?_; rintro e w' ⟨rfl, hb⟩
      replace R := R.step hb; clear hb q0 q1 q2 q3 q4 q5; obtain ⟨q0, q1, q2, q3, q4, q5⟩ := R.cells
      go_wp2_with fail
      refine (may_is hmb1 _).mono ?_; rintro e w' ⟨rfl, hb⟩
      replace R := R.step hb; clear hb q0 q1 q2 q3 q4 q5; obtain ⟨q0, q1, q2, q3, q4, q5⟩ := R.cells
      go_wp2_with fail
      refine (may_is hma1 _).mono ?_; rintro e w' ⟨rfl, hb⟩
      replace R := R.step hb; clear hb q0 q1 q2 q3 q4 q5; obtain ⟨q0, q1, q2, q3, q4, q5⟩ := R.cells
      go_wp2_with fail
      refine (may_is hla1 _).mono ?_; rintro e w' ⟨rfl, hb⟩
      replace R := R.step hb; clear hb q0 q1 q2 q3 q4 q5; obtain ⟨q0, q1, q2, q3, q4, q5⟩ := R.cells
      go_wp2_with fail
      go_roundw
      case rel => exact ⟨2, by omega, by go_num, R⟩
      case measure => simp [intOf]
    · by_cases hlo : 0 ≤ kd
      · by_cases hhi : kd ≤ 2
        · go_wp2_with fail
          refine (may_is hma1 _).mono ?_; rintro e w' ⟨rfl, hb⟩
          replace R := R.step hb; clear hb q0 q1 q2 q3 q4 q5; obtain ⟨q0, q1, q2, q3, q4, q5⟩ := R.cells
          go_wp2_with fail
          refine (may_is hma0 _).mono ?_; rintro e w' ⟨rfl, hb⟩
          replace R := R.step hb; clear hb q0 q1 q2 q3 q4 q5; obtain ⟨q0, q1, q2, q3, q4, q5⟩ := R.cells
          go_wp2_with fail
          go_ret
          exact ⟨rfl, R.below⟩
        · go_wp2_with fail
          refine (may_is hma1 _).mono ?_; rintro e w' ⟨rfl, hb⟩
          replace R := R.step hb; clear hb q0 q1 q2 q3 q4 q5; obtain ⟨q0, q1, q2, q3, q4, q5⟩ := R.cells
          go_wp2_with fail
          refine (may_is hma0 _).mono ?_; rintro e w' ⟨rfl, hb⟩
          replace R := R.step hb; clear hb q0 q1 q2 q3 q4 q5; obtain ⟨q0, q1, q2, q3, q4, q5⟩ := R.cells
          have hal := Hall.out (by omega)
          go_wp2_with fail
          refine (all_any _).mono ?_; rintro e w' ⟨rfl, hb⟩
          replace R := R.step hb; clear hb q0 q1 q2 q3 q4 q5; obtain ⟨q0, q1, q2, q3, q4, q5⟩ := R.cells
          go_wp2_with fail
          refine (may_is hal _).mono ?_; rintro e w' ⟨rfl, hb⟩
          replace R := R.step hb; clear hb q0 q1 q2 q3 q4 q5; obtain ⟨q0, q1, q2, q3, q4, q5⟩ := R.cells
          go_wp2_with fail
          go_ret
          exact ⟨rfl, R.below⟩
      · go_wp2_with fail
        refine (may_is hma1 _).mono ?_; rintro e w' ⟨rfl, hb⟩
        replace R := R.step hb; clear hb q0 q1 q2 q3 q4 q5; obtain ⟨q0, q1, q2, q3, q4, q5⟩ := R.cells
        go_wp2_with fail
        refine (may_is hma0 _).mono ?_; rintro e w' ⟨rfl, hb⟩
        replace R := R.step hb; clear hb q0 q1 q2 q3 q4 q5; obtain ⟨q0, q1, q2, q3, q4, q5⟩ := R.cells
        have hal := Hall.out (by omega)
        go_wp2_with fail
        refine (all_any _).mono ?_; rintro e w' ⟨rfl, hb⟩
        replace R := R.step hb; clear hb q0 q1 q2 q3 q4 q5; obtain ⟨q0, q1, q2, q3, q4, q5⟩ := R.cells
        go_wp2_with fail
        refine (may_is hal _).mono ?_; rintro e w' ⟨rfl, hb⟩
        replace R := R.step hb; clear hb q0 q1 q2 q3 q4 q5; obtain ⟨q0, q1, q2, q3, q4, q5⟩ := R.cells
        go_wp2_with fail
        go_ret
        exact ⟨rfl, R.below⟩

theorem laws : ∀ a0 a1 a2 b0 b1 b2 u : Bool, ∀ z : Int, (z = 0 ∨ z = 1 ∨ z = 2 ∨ z = 3) → (mayB a0 a1 a2 z u = true → mayB a0 a1 a2 0 u = true) ∧ (mayB a0 a1 a2 z true = true → mayB a0 a1 a2 z false = true) ∧
    (underB a0 a1 a2 b0 b1 b2 = true → mayB a0 a1 a2 z u = true → mayB b0 b1 b2 z u = true) := by
  intro a0 a1 a2 b0 b1 b2 u z hz
  rcases hz with rfl | rfl | rfl | rfl <;> revert a0 a1 a2 b0 b1 b2 u <;> decide
theorem other (x0 x1 x2 u : Bool) (k : Int) (h : ¬ (0 ≤ k ∧ k ≤ 2)) : mayB x0 x1 x2 k u = mayB x0 x1 x2 3 u := by
  unfold mayB
  rw [if_neg (by omega), if_neg (by omega), if_neg (by decide), if_neg (by decide)]
  have e : (k == 0) = false := beq_eq_false_iff_ne.2 (by omega)
  rw [e]; rfl
theorem kinds (kd : Int) : ∃ z : Int, (z = 0 ∨ z = 1 ∨ z = 2 ∨ z = 3) ∧ ∀ x0 x1 x2 u : Bool, mayB x0 x1 x2 kd u = mayB x0 x1 x2 z u := by
  by_cases h : 0 ≤ kd ∧ kd ≤ 2
  · exact ⟨kd, by omega, fun _ _ _ _ => rfl⟩
  · exact ⟨3, by omega, fun x0 x1 x2 u => other x0 x1 x2 u kd h⟩

theorem walk (a0 a1 a2 b0 b1 b2 : Bool) (kd : Int) (w : World) :
    Calls Try.prog 5 #[.agg #[.bool a0, .bool a1, .bool a2], .agg #[.bool b0, .bool b1, .bool b2], .int .i64 kd] w fun e w' => e = .returned (.bool true) ∧ Below w.heap.size w w' := by
  obtain ⟨z, hz, hk⟩ := kinds kd
  have hall : ¬ (0 ≤ kd ∧ kd ≤ 2) → mayB true true true kd false = false := fun h => by rw [other _ _ _ _ _ h]; rfl
  have l0 := laws a0 a1 a2 b0 b1 b2 false z hz
  have l1 := laws a0 a1 a2 b0 b1 b2 true z hz
  simp only [← hk] at l0 l1
  cases hu : underB a0 a1 a2 b0 b1 b2 <;> cases hma0 : mayB a0 a1 a2 kd false <;> cases hma1 : mayB a0 a1 a2 kd true
  · exact way000 a0 a1 a2 b0 b1 b2 kd w hu hma0 hma1 hall
  · exact absurd (l0.2.1 hma1) (by rw [hma0]; decide)
  · exact way010 a0 a1 a2 b0 b1 b2 kd w hu hma0 hma1 (l0.1 hma0) hall
  · exact way011 a0 a1 a2 b0 b1 b2 kd w hu hma0 hma1 (l0.1 hma0) (l1.1 hma1) hall
  · exact way100 a0 a1 a2 b0 b1 b2 kd w hu hma0 hma1 hall
  · exact absurd (l0.2.1 hma1) (by rw [hma0]; decide)
  · exact way110 a0 a1 a2 b0 b1 b2 kd w hu hma0 hma1 (l0.1 hma0) (l0.2.2 hu hma0) hall
  · exact way111 a0 a1 a2 b0 b1 b2 kd w hu hma0 hma1 (l0.1 hma0) (l1.1 hma1) (l0.2.2 hu hma0) (l1.2.2 hu hma1) hall
end Go.Proofs.Ytiiaififiijcnaa.MoreWalk
