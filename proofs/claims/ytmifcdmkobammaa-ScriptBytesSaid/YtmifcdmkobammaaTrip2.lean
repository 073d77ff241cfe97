/- Layer 12: operations' bytes, one behind the other, are read as those operations, up to what is none. -/
import Derived.Test.YtmifcdmkobammaaTrip
import Derived.Test.YtmifcdmkobammaaOpen
namespace Go.Proofs.Ytmifcdmkobammaa.ScriptWalk
open Go.RowKit Go.Proofs.Ytmifcdmkobammaa.Parts Go.Proofs.Ytmifcdmkobammaa.Q
def wide31 (o : S31) : List Int := (if o.f1 = true then o.f0 + 128 else o.f0) :: wroteAll o.f2 o.f3 o.f4 o.f5 o.f6 (letters o.f0)
theorem right31_facts {o : S31} (h : right31 o = true) : 0 ≤ o.f0 ∧ o.f0 ≤ 8 ∧ 0 ≤ o.f4 ∧ o.f4 < 256 ∧ 0 ≤ o.f6 ∧ o.f6 < 256 ∧ 0 ≤ o.f5 ∧ o.f5 < 8 ∧ own o.f0 65 o.f2 = o.f2 ∧ own o.f0 86 o.f3 = o.f3 ∧ own o.f0 71 o.f4 = o.f4 ∧ own o.f0 73 o.f5 = o.f5 ∧ own o.f0 78 o.f6 = o.f6 := by
  unfold right31 rightB at h
  simp only [Bool.and_eq_true, Bool.not_eq_true', decide_eq_true_eq, List.isEmpty_eq_false_iff] at h
  obtain ⟨h1, _, ⟨q1, q2, q3, q4, q5⟩, h4, h5, h6, h7, h8, h9⟩ := h
  have hk : 0 ≤ o.f0 ∧ o.f0 ≤ 8 := by
    rcases kinds o.f0 with e | e | e | e | e | e | e | e | e | e
    iterate 9 · omega
    · exact absurd (by unfold pt; rw [letters_no e]; decide +kernel) h1
  exact ⟨hk.1, hk.2, h4, h5, h6, h7, h8, h9, q1, q2, q3, q4, q5⟩
theorem getL_cons (n0 k : Nat) (out : List S31) (x : Int) (xs : List Int) : getL n0 (k + 1) out (x :: xs) = match readAll (letters (x % 128)) five0 xs with
    | none => some (out, (n0 : Int) - ((xs.length : Int) + 1), 12)
    | some (f, ys) => if right31 (mk31 x f) = true then getL n0 k (out ++ [mk31 x f]) ys else some (out, (n0 : Int) - ((xs.length : Int) + 1), 12) := rfl
theorem getL_one (n0 k : Nat) (out : List S31) (o : S31) (ys : List Int) (hr : right31 o = true) (hf : Open.Fit o) : getL n0 (k + 1) out (wide31 o ++ ys) = getL n0 k (out ++ [o]) ys := by
  obtain ⟨k0, k8, g0, g1, n0', n1, i0, i1, q1, q2, q3, q4, q5⟩ := right31_facts hr
  have hm : (if o.f1 = true then o.f0 + 128 else o.f0) % 128 = o.f0 := by split <;> omega
  have hu : decide (128 ≤ (if o.f1 = true then o.f0 + 128 else o.f0)) = o.f1 := by
    cases h : o.f1
    · rw [if_neg (by decide)]; exact decide_eq_false (by omega)
    · rw [if_pos rfl]; exact decide_eq_true (by omega)
  have hread := read_wrote o.f0 o.f2 o.f3 o.f4 o.f5 o.f6 ys hf.2.1 hf.2.2.1 ⟨g0, g1⟩ ⟨i0, by omega⟩ ⟨n0', n1⟩
  rw [q1, q2, q3, q4, q5] at hread
  show getL n0 (k + 1) out ((if o.f1 = true then o.f0 + 128 else o.f0) :: (wroteAll o.f2 o.f3 o.f4 o.f5 o.f6 (letters o.f0) ++ ys)) = _
  rw [getL_cons, hm, hread]
  have hmk : mk31 (if o.f1 = true then o.f0 + 128 else o.f0) ⟨o.f2, o.f3, o.f4, o.f5, o.f6⟩ = o := by
    unfold mk31; rw [hm, hu]
  simp only [hmk, hr, if_true]
theorem getL_all (n0 : Nat) (ys : List Int) : ∀ (l : List S31) (k : Nat) (out : List S31), l.all right31 = true → (∀ o ∈ l, Open.Fit o) → getL n0 (k + l.length) out (l.flatMap wide31 ++ ys) = getL n0 k (out ++ l) ys := by
  intro l
  induction l with
  | nil => intro k out _ _; simp
  | cons o l ih =>
    intro k out hr hf
    simp only [List.all_cons, Bool.and_eq_true] at hr
    rw [List.flatMap_cons, List.append_assoc, List.length_cons, ← Nat.add_assoc, getL_one n0 _ out o _ hr.1 (hf o List.mem_cons_self), ih k _ hr.2 (fun p hp => hf p (List.mem_cons_of_mem _ hp)), List.append_assoc]
    rfl
end Go.Proofs.Ytmifcdmkobammaa.ScriptWalk
