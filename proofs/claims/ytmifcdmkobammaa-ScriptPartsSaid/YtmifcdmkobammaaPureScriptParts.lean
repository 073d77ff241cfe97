/- ScriptParts, the plain law: an operation with something that is no part of it, or with a part that is too large, is not right. -/
import Derived.Test.YtmifcdmkobammaaOScriptParts
import Derived.Test.YtmifcdmkobammaaOpen
namespace Go.Proofs.Ytmifcdmkobammaa.Q
open Go.RowKit Go.Proofs.YtmifcdmkobammaaW.PrintWords Go.Proofs.YtmifcdmkobammaaW.PrintLast Go.Proofs.YtmifcdmkobammaaW.PrintMore Go.Proofs.Ytmifcdmkobammaa.ScriptWalk Go.Proofs.Ytmifcdmkobammaa.Parts
theorem w64 {x : Int} (h0 : -9223372036854775808 ≤ x) (h1 : x < 9223372036854775808) : wrap64 x = x := by
  rw [← i64_w, IntKind.wrap_i64]; omega
theorem right_facts {k : Int} {u : Bool} {a v g i n : Int} (h : rightB k u a v g i n = true) : ¬ (pt k).toList = [] ∧ (u = true → hasU k = true) ∧ 0 ≤ g ∧ g < 256 ∧ 0 ≤ n ∧ n < 256 ∧ 0 ≤ i ∧ i < 8 := by
  unfold rightB at h
  simp only [Bool.and_eq_true, Bool.not_eq_true', decide_eq_true_eq, Bool.or_eq_true, List.isEmpty_eq_false_iff] at h
  obtain ⟨h1, h2, h3, h4, h5, h6, h7, h8, h9⟩ := h
  refine ⟨h1, fun hu => ?_, h4, h5, h6, h7, h8, h9⟩
  rcases h2 with h2 | h2
  · rw [hu] at h2; cases h2
  · exact h2
theorem parts_pure (k : Int) (u : Bool) (a v g i n m : Int) (hm0 : 0 ≤ m) (hm : m < 256) : silhouettelaw12_ScriptParts.f k u a v g i n m = some true := by
  unfold silhouettelaw12_ScriptParts.f silhouettelaw12_head.f script_Right.f
  simp only [Option.bind_some]
  cases hr : rightB k u a v g i n with
  | false => rfl
  | true =>
    obtain ⟨h1, h2, h4, h5, h6, h7, h8, h9⟩ := right_facts hr
    rw [w64 (x := m) (by omega) (by omega), w64 (x := 256 + m) (by omega) (by omega), w64 (x := 8 + m) (by omega) (by omega), w64 (x := (-1) - m) (by omega) (by omega), w64 (x := 9 + m) (by omega) (by omega)]
    have e1 : rightB k u a v (256 + m) i n = false := by
      cases h : rightB k u a v (256 + m) i n with
      | false => rfl
      | true => obtain ⟨_, _, _, hh, _⟩ := right_facts h; omega
    have e2 : rightB k u a v g (8 + m) n = false := by
      cases h : rightB k u a v g (8 + m) n with
      | false => rfl
      | true => obtain ⟨_, _, _, _, _, _, _, hh⟩ := right_facts h; omega
    have e3 : rightB k u a v g i ((-1) - m) = false := by
      cases h : rightB k u a v g i ((-1) - m) with
      | false => rfl
      | true => obtain ⟨_, _, _, _, hh, _⟩ := right_facts h; omega
    have e4 : rightB k false 0 0 0 0 0 = true := by
      unfold rightB own
      simp [h1]
    have e5 : rightB (9 + m) u a v g i n = false := by
      cases h : rightB (9 + m) u a v g i n with
      | false => rfl
      | true =>
        obtain ⟨hh, _⟩ := right_facts h
        exact absurd (by unfold pt; rw [letters_no (k := 9 + m) (by omega)]; decide +kernel) hh
    have e6 : rightB 3 true 0 0 0 0 0 = false := by decide +kernel
    rw [e1, e2, e3, e4, e5, e6]
    rfl
theorem parts_walk (o : S31) (m : Int) (w : World) (hm : (Lit.int .u8 m).wf = true) : Calls Try.prog 7 #[.agg #[.int .i64 o.f0, .bool o.f1, .int .u64 o.f2, .int .u64 o.f3, .int .i64 o.f4, .int .i64 o.f5, .int .i64 o.f6], .int .u8 m] w fun e w' => e = .returned (.bool true) ∧ Below w.heap.size w w' :=
  silhouettelaw12_ScriptParts.calls o.f0 o.f1 o.f2 o.f3 o.f4 o.f5 o.f6 m true rfl w (parts_pure o.f0 o.f1 o.f2 o.f3 o.f4 o.f5 o.f6 m (Open.wf_u8 hm).1 (Open.wf_u8 hm).2)
end Go.Proofs.Ytmifcdmkobammaa.Q
