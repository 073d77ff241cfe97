/- ScriptBytes, the plain law: each operation's bytes begin with its kind, and whether a user asks; an address of one kind is eight bytes wide wherever it is. -/
import Derived.Test.YtmifcdmkobammaaBytesW
namespace Go.Proofs.Ytmifcdmkobammaa.Q
open Go.RowKit Go.Proofs.YtmifcdmkobammaaW.PrintWords Go.Proofs.YtmifcdmkobammaaW.PrintLast Go.Proofs.YtmifcdmkobammaaW.PrintMore Go.Proofs.Ytmifcdmkobammaa.ScriptWalk Go.Proofs.Ytmifcdmkobammaa.Parts
theorem right_setA (o : S31) (a : Int) (h : right31 o = true) : right31 ⟨o.f0, o.f1, a, o.f3, o.f4, o.f5, o.f6⟩ = decide (own o.f0 65 a = a) := by
  unfold right31 rightB at h ⊢
  simp only [Bool.and_eq_true, decide_eq_true_eq] at h
  obtain ⟨h1, h2, ⟨q1, q2, q3, q4, q5⟩, h4, h5, h6, h7, h8, h9⟩ := h
  simp only [h1, h2, q2, q3, q4, q5, h4, h5, h6, h7, h8, h9, decide_true, Bool.true_and, Bool.and_true, and_true]
theorem put_one (o : S31) {K : Nat} (hK : 2 ≤ K) : script_Put.f K [o] = some (if right31 o = true then wide31 o else []) := by
  rw [put_at [o] (by simp) (by simpa using hK)]
  cases h : right31 o with
  | true => rw [put_right (by simp [h]), if_pos rfl]; simp
  | false => rw [put_wrong (by simp [h]), if_neg (by decide)]
theorem bytes_walk (o : S31) (a : Int) (w : World) : Calls Try.prog 8 #[.agg #[.int .i64 o.f0, .bool o.f1, .int .u64 o.f2, .int .u64 o.f3, .int .i64 o.f4, .int .i64 o.f5, .int .i64 o.f6], .int .u64 a] w fun e w' => e = .returned (.bool true) ∧ Below w.heap.size w w' := by
  have hp := put_one o (K := 5) (by decide)
  cases hr : right31 o with
  | false =>
    rw [hr, if_neg (by decide)] at hp
    exact bytes_no o.f0 o.f1 o.f2 o.f3 o.f4 o.f5 o.f6 a w hp (by rw [right_at, hr])
  | true =>
    rw [hr, if_pos rfl] at hp
    have hk := right31_facts hr
    have hwl := wide_len o
    have hq := put_one ⟨o.f0, o.f1, a, o.f3, o.f4, o.f5, o.f6⟩ (K := 5) (by decide)
    rw [right_setA o a hr] at hq
    have hql := wide_len ⟨o.f0, o.f1, a, o.f3, o.f4, o.f5, o.f6⟩
    have hq0 : (⟨o.f0, o.f1, a, o.f3, o.f4, o.f5, o.f6⟩ : S31).f0 = o.f0 := rfl
    rw [hq0] at hql
    have hx0 : 0 ≤ (if o.f1 = true then o.f0 + 128 else o.f0) := by split <;> omega
    have hx1 : (if o.f1 = true then o.f0 + 128 else o.f0) < 256 := by split <;> omega
    have hmod : (if o.f1 = true then o.f0 + 128 else o.f0) % 128 = o.f0 := by split <;> omega
    have huser : decide (128 ≤ (if o.f1 = true then o.f0 + 128 else o.f0)) = o.f1 := by
      cases h : o.f1
      · rw [if_neg (by decide)]; exact decide_eq_false (by omega)
      · rw [if_pos rfl]; exact decide_eq_true (by omega)
    have hps : (wroteAll o.f2 o.f3 o.f4 o.f5 o.f6 (letters o.f0)).length + 1 = 1 + widths (letters o.f0) := by rw [wroteAll_widths]; omega
    by_cases hA : o.f0 ≤ 3 ∨ o.f0 = 7
    · have hown : own o.f0 65 a = a := by
        have : o.f0 = 0 ∨ o.f0 = 1 ∨ o.f0 = 2 ∨ o.f0 = 3 ∨ o.f0 = 7 := by omega
        rcases this with e | e | e | e | e <;> rw [e] <;> rfl
      have h9 : 8 ≤ widths (letters o.f0) := by
        have : o.f0 = 0 ∨ o.f0 = 1 ∨ o.f0 = 2 ∨ o.f0 = 3 ∨ o.f0 = 7 := by omega
        rcases this with e | e | e | e | e <;> rw [e] <;> decide
      rw [decide_eq_true hown, if_pos rfl] at hq
      by_cases h3 : o.f0 ≤ 3
      · exact bytes_A o.f0 o.f1 o.f2 o.f3 o.f4 o.f5 o.f6 a _ _ _ w hp hq hx0 hx1 hmod huser (decide_eq_true h3) (by omega) (by omega)
      · exact bytes_B o.f0 o.f1 o.f2 o.f3 o.f4 o.f5 o.f6 a _ _ _ w hp hq hx0 hx1 hmod huser (decide_eq_false h3) (beq_iff_eq.2 (by omega)) (by omega) (by omega)
    · have hown : own o.f0 65 a = 0 := by
        have : o.f0 = 4 ∨ o.f0 = 5 ∨ o.f0 = 6 ∨ o.f0 = 8 := by omega
        rcases this with e | e | e | e <;> rw [e] <;> rfl
      rw [hown] at hq
      refine bytes_C o.f0 o.f1 o.f2 o.f3 o.f4 o.f5 o.f6 a _ _ _ w hp hq hx0 hx1 hmod huser (decide_eq_false (by omega)) (beq_eq_false_iff_ne.2 (by omega)) ?_
      by_cases h0 : a = 0
      · subst h0
        rw [decide_eq_true rfl, if_pos rfl, decide_eq_true (by omega)]; rfl
      · have e : decide ((0 : Int) = a) = false := decide_eq_false (fun h => h0 h.symm)
        rw [e, if_neg (by decide), beq_eq_false_iff_ne.2 h0]; rfl
end Go.Proofs.Ytmifcdmkobammaa.Q
