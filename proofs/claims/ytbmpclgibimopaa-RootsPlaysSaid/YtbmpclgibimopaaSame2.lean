/- Layer 18: SameInts tells whether two lists are equal. -/
import Derived.Test.YtbmpclgibimopaaSame
namespace Go.Proofs.Ytbmpclgibimopaa.Walk
open Go.RowKit Go.Proofs.YtbmpclgibimopaaW.PrintWords Go.Proofs.YtbmpclgibimopaaW.PrintLast Go.Proofs.YtbmpclgibimopaaW.PrintMore
theorem w64 {x : Int} (h0 : -9223372036854775808 ≤ x) (h1 : x < 9223372036854775808) : wrap64 x = x := by
  rw [← i64_w, IntKind.wrap_i64]; omega
theorem same_loop (x0 x1 : List Int) (hl : x0.length ≤ 1000000000) (he : x0.length = x1.length) : ∀ (m i : Nat), i + m = x0.length → silhouetteref13_SameInts.l0 (m + 1) x0 x1 (i : Int) = some (decide (x0.drop i = x1.drop i)) := by
  intro m
  induction m with
  | zero =>
    intro i hi
    rw [List.drop_of_length_le (by omega), List.drop_of_length_le (by omega)]
    unfold silhouetteref13_SameInts.l0; rw [if_neg (by omega)]; simp
  | succ m ih =>
    intro i hi
    have h0 : i < x0.length := by omega
    have h1 : i < x1.length := by omega
    have r0 : rd x0 (i : Int) = x0[i] := by unfold rd; rw [Int.toNat_natCast, List.getD_eq_getElem?_getD, List.getElem?_eq_getElem h0]; rfl
    have r1 : rd x1 (i : Int) = x1[i] := by unfold rd; rw [Int.toNat_natCast, List.getD_eq_getElem?_getD, List.getElem?_eq_getElem h1]; rfl
    have d0 : x0.drop i = x0[i] :: x0.drop (i + 1) := List.drop_eq_getElem_cons h0
    have d1 : x1.drop i = x1[i] :: x1.drop (i + 1) := List.drop_eq_getElem_cons h1
    unfold silhouetteref13_SameInts.l0
    rw [if_pos (by omega), if_pos (by omega), if_pos (by omega), r0, r1]
    rw [d0, d1]
    by_cases hab : x0[i] = x1[i]
    · rw [if_pos hab, w64 (by omega) (by omega), show ((i : Int) + 1) = ((i + 1 : Nat) : Int) by omega, ih (i + 1) (by omega)]
      congr 1
      refine decide_eq_decide.2 ⟨fun e => by rw [hab, e], fun e => (List.cons.inj e).2⟩
    · rw [if_neg hab, decide_eq_false (fun e => hab (List.cons.inj e).1)]
theorem same_f (x0 x1 : List Int) (hl : x0.length ≤ 1000000000) : silhouetteref13_SameInts.f (x0.length + 1) x0 x1 = some (decide (x0 = x1)) := by
  unfold silhouetteref13_SameInts.f
  by_cases he : x0.length = x1.length
  · rw [if_pos (by omega)]
    have := same_loop x0 x1 hl he x0.length 0 (by omega)
    rw [List.drop_zero, List.drop_zero] at this
    exact this
  · rw [if_neg (by omega), decide_eq_false (fun e => he (by rw [e]))]
theorem same_any (A0 A1 : Option Addr) (c0 c1 : Nat) (l0 l1 : List Int) (w : World) (h0 : Kd.C (Kd.int .i64) w A0 l0.length l0) (hc0 : l0.length ≤ c0) (h1 : Kd.C (Kd.int .i64) w A1 l1.length l1) (hc1 : l1.length ≤ c1) (hl : l0.length ≤ 1000000000) :
    Calls Try.prog 16 #[.slice A0 l0.length c0, .slice A1 l1.length c1] w fun e w' => e = .returned (.bool (decide (l0 = l1))) ∧ ∃ n, w' = w.drewN n :=
  (silhouetteref13_SameInts.calls (l0.length + 1) A0 c0 l0 A1 c1 l1 _ w h0 hc0 h1 hc1 (same_f l0 l1 hl)).mono fun _ _ h => ⟨h.1, h.2.out⟩
end Go.Proofs.Ytbmpclgibimopaa.Walk
