/- Layer 18: the closures of roots.Roots.List, and slices.DeleteFunc over spaces whose unused ones stand last; walked. -/
import Derived.Test.YtbmpclgibimopaaUse
import Derived.Test.YtbmpclgibimopaaShelf
import Derived.Lib.SliceRun
namespace Go.Proofs.Ytbmpclgibimopaa.Walk
open Go.RowKit Go.Lib Go.Shelf Go.Sort Go.Proofs.Ytbmpclgibimopaa.Blks
/-- A space's root and when it was used, of a size that sorts. -/
structure Sp where
  val : Int × Int
  fit : 0 ≤ val.2 ∧ val.2 < 4611686018427387904
instance : Inhabited Sp := ⟨⟨(0, 0), by decide⟩⟩
def encS (x : Sp) : List Value := [.int .i64 x.val.1, .int .i64 x.val.2]
def cfS (x y : Sp) : Int := x.val.2 - y.val.2
set_option maxHeartbeats 1000000 in
theorem unused_any (a u : Int) (W : World) : Calls Try.prog 22 #[.agg #[.int .i64 a, .int .i64 u]] W fun e w' => e = .returned (.bool (u == 0)) ∧ ∃ os, w' = grow W os := by
  go_enter Try.func22, Try.ntmps22
  go_wp2
  go_ret
  exact ⟨rfl, _, alloc_eq_grow _ _⟩
set_option maxHeartbeats 1000000 in
theorem cmp_any (x y : Sp) (W : World) : Calls Try.prog 24 #[.agg (encS x).toArray, .agg (encS y).toArray] W fun e w' => e = .returned (.int .i64 (cfS x y)) ∧ ∃ q os', w' = grow (W.drewN q) os' := by
  obtain ⟨⟨a, u⟩, hu0, hu1⟩ := x
  obtain ⟨⟨b, v⟩, hv0, hv1⟩ := y
  unfold cfS encS
  dsimp only at *
  have hw : IntKind.i64.wrap (u - v) = u - v := by rw [IntKind.wrap_i64]; omega
  go_enter Try.func24, Try.ntmps24
  go_wp2
  go_ret
  exact ⟨rfl, 0, _, by rw [alloc_eq_grow, alloc_eq_grow, grow_grow]; rfl⟩
theorem cmp_lays (blk off size : Nat) (w : World) : CmpLays Try.prog 24 #[] encS 2 cfS blk off size w := fun _ _ _ _ x y => cmp_any x y _
theorem swo : SWO (ltOf cfS) where
  irrefl x := by simp [ltOf, cfS]
  trans x y z h1 h2 := by
    unfold ltOf cfS at *
    simp only [decide_eq_true_eq] at *
    omega
  ntrans x y z h1 h2 := by
    unfold ltOf cfS at *
    simp only [decide_eq_false_iff_not] at *
    omega
theorem below_grow {w w' : World} {B : Nat} (h : Below B w w') (hB : B ≤ w'.heap.size) (os : Array Obj) : Below B w (grow w' os) := by
  refine ⟨h.os, h.tape, h.output, ?_, fun i hi => ?_⟩
  · have := h.size; simp [grow]; omega
  · show (w'.heap ++ os)[i]? = _
    rw [Array.getElem?_append_left (by omega)]
    exact h.block i hi
theorem pred_below (w : World) : PredBelow Try.prog 22 #[] (fun x => .agg (encS x).toArray) (fun x : Sp => x.val.2 == 0) w := by
  intro W x hb
  refine (unused_any x.val.1 x.val.2 W).mono ?_
  rintro e w' ⟨he, os, rfl⟩
  exact ⟨he, below_grow hb hb.size os⟩
end Go.Proofs.Ytbmpclgibimopaa.Walk
