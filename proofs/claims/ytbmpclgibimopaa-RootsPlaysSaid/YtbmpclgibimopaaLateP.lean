/- Layer 18: the roots that were used last, in plain Lean. -/
import Derived.Test.YtbmpclgibimopaaAbs
namespace Go.Proofs.Ytbmpclgibimopaa.Walk
/-- Each once, where it comes up first, behind some that were there. -/
def nubF (B : List Int) : List Int → List Int
  | [] => B
  | y :: l => nubF (if y ∈ B then B else B ++ [y]) l
def nub (l : List Int) : List Int := nubF [] l
theorem nubF_app (l m : List Int) : ∀ B, nubF B (l ++ m) = nubF (nubF B l) m := by
  induction l with
  | nil => intro B; rfl
  | cons y l ih => intro B; exact ih _
theorem nubF_pre (l : List Int) : ∀ B, ∃ C, nubF B l = B ++ C := by
  induction l with
  | nil => intro B; exact ⟨[], (List.append_nil B).symm⟩
  | cons y l ih =>
    intro B
    unfold nubF
    by_cases h : y ∈ B
    · rw [if_pos h]; exact ih B
    · rw [if_neg h]
      obtain ⟨C, hC⟩ := ih (B ++ [y])
      exact ⟨y :: C, by rw [hC]; simp⟩
theorem nub_snoc (l : List Int) (y : Int) : nub (l ++ [y]) = if y ∈ nub l then nub l else nub l ++ [y] := by
  unfold nub
  rw [nubF_app]
  rfl
theorem nubF_nodup (l : List Int) : ∀ B, B.Nodup → (nubF B l).Nodup := by
  induction l with
  | nil => intro B h; exact h
  | cons y l ih =>
    intro B h
    unfold nubF
    by_cases hy : y ∈ B
    · rw [if_pos hy]; exact ih B h
    · rw [if_neg hy]
      refine ih _ ?_
      rw [List.nodup_append]
      exact ⟨h, by simp, fun a ha b hb e => hy (by rw [List.mem_singleton.1 hb] at e; rwa [← e])⟩
theorem nub_nodup (l : List Int) : (nub l).Nodup := nubF_nodup l [] List.nodup_nil
theorem nubF_cons (x : Int) (l : List Int) : ∀ B, nubF (x :: B.filter (· != x)) l = x :: (nubF B l).filter (· != x) := by
  induction l with
  | nil => intro B; rfl
  | cons y l ih =>
    intro B
    unfold nubF
    by_cases hyx : y = x
    · subst hyx
      rw [if_pos List.mem_cons_self]
      by_cases hy : y ∈ B
      · rw [if_pos hy]; exact ih B
      · rw [if_neg hy]
        have e : (B ++ [y]).filter (· != y) = B.filter (· != y) := by rw [List.filter_append]; simp
        rw [← e]
        exact ih (B ++ [y])
    · have hm : y ∈ x :: B.filter (· != x) ↔ y ∈ B := by
        rw [List.mem_cons, List.mem_filter]
        constructor
        · rintro (h | h)
          · exact absurd h hyx
          · exact h.1
        · intro h
          exact .inr ⟨h, by simpa using hyx⟩
      by_cases hy : y ∈ B
      · rw [if_pos (hm.2 hy), if_pos hy]; exact ih B
      · rw [if_neg (fun h => hy (hm.1 h)), if_neg hy]
        have e : x :: B.filter (· != x) ++ [y] = x :: (B ++ [y]).filter (· != x) := by
          rw [List.filter_append, List.filter_cons, if_pos (by simpa using hyx)]; rfl
        rw [e]
        exact ih (B ++ [y])
theorem nub_cons (x : Int) (l : List Int) : nub (x :: l) = x :: (nub l).filter (· != x) := nubF_cons x l []
/-- Use, on the roots alone. -/
def useR (N : Nat) (R : List Int) (x : Int) : List Int := if x ∈ R then R.filter (· != x) ++ [x] else if R.length < N then R ++ [x] else R.tail ++ [x]
theorem use_roots (N : Nat) (L : Lru) (x : Int) (hN : 1 ≤ N) : (useL N L x).1.map Prod.fst = useR N (L.map Prod.fst) x := by
  unfold useL
  cases hf : L.find? (fun p => p.1 == x) with
  | some p =>
    have hp := List.mem_of_find?_eq_some hf
    have hx : p.1 = x := by have := List.find?_some hf; simpa using this
    show (L.filter (fun q => q.1 != x) ++ [(x, p.2)]).map Prod.fst = _
    unfold useR
    rw [if_pos (by rw [← hx]; exact List.mem_map_of_mem hp), List.map_append, List.filter_map]
    rfl
  | none =>
    have hno : ∀ p ∈ L, p.1 ≠ x := fun p hp => by have := List.find?_eq_none.1 hf p hp; simpa using this
    have hm : ¬ x ∈ L.map Prod.fst := fun h => by obtain ⟨p, hp, e⟩ := List.mem_map.1 h; exact hno p hp e
    dsimp only
    by_cases hl : L.length < N
    · rw [if_pos hl]
      unfold useR
      rw [if_neg hm, List.length_map, if_pos hl, List.map_append]; rfl
    · rw [if_neg hl]
      unfold useR
      rw [if_neg hm, List.length_map, if_neg hl]
      match L, hl with
      | [], hl => simp at hl; omega
      | p :: L', _ => simp
theorem take_filter (x : Int) : ∀ (D : List Int) (M : Nat), D.Nodup → (D.filter (· != x)).take M = if x ∈ D.take (M + 1) then (D.take (M + 1)).filter (· != x) else D.take M := by
  intro D
  induction D with
  | nil => intro M _; simp
  | cons y D ih =>
    intro M hd
    rw [List.nodup_cons] at hd
    rw [List.take_succ_cons]
    by_cases hyx : y = x
    · subst hyx
      have e : D.filter (· != y) = D := List.filter_eq_self.2 fun z hz => by
        have : z ≠ y := fun h => hd.1 (by rwa [← h])
        simpa using this
      have e2 : (D.take M).filter (· != y) = D.take M := List.filter_eq_self.2 fun z hz => by
        have : z ≠ y := fun h => hd.1 (by rw [← h]; exact List.mem_of_mem_take hz)
        simpa using this
      rw [if_pos List.mem_cons_self, List.filter_cons, if_neg (by simp), List.filter_cons, if_neg (by simp), e, e2]
    · rw [List.filter_cons, if_pos (by simpa using hyx)]
      cases M with
      | zero =>
        rw [List.take_zero, List.take_zero, if_neg (by simpa using Ne.symm hyx)]
        rfl
      | succ M =>
        rw [List.take_succ_cons, ih M hd.2]
        by_cases hm : x ∈ D.take (M + 1)
        · rw [if_pos hm, if_pos (List.mem_cons_of_mem _ hm), List.filter_cons, if_pos (by simpa using hyx)]
        · rw [if_neg hm, if_neg (fun h => by
            rcases List.mem_cons.1 h with e | e
            · exact hyx e.symm
            · exact hm e), List.take_succ_cons]
/-- The roots of the list are those that were used last. -/
theorem use_late (N : Nat) (R : List Int) (D : List Int) (x : Int) (hN : 1 ≤ N) (hd : D.Nodup) (h : R.reverse = D.take N) : (useR N R x).reverse = (x :: D.filter (· != x)).take N := by
  obtain ⟨M, rfl⟩ : ∃ M, N = M + 1 := ⟨N - 1, by omega⟩
  have hR : R = (D.take (M + 1)).reverse := by rw [← h, List.reverse_reverse]
  rw [List.take_succ_cons, take_filter x D M hd]
  unfold useR
  have hmem : x ∈ R ↔ x ∈ D.take (M + 1) := by rw [hR, List.mem_reverse]
  by_cases hx : x ∈ D.take (M + 1)
  · rw [if_pos (hmem.2 hx), if_pos hx, List.reverse_append, List.reverse_singleton, List.singleton_append, ← List.filter_reverse, h]
  · rw [if_neg (fun hh => hx (hmem.1 hh)), if_neg hx]
    have hlen : R.length = min (M + 1) D.length := by rw [hR, List.length_reverse, List.length_take]
    by_cases hl : R.length < M + 1
    · rw [if_pos hl, List.reverse_append, List.reverse_singleton, List.singleton_append, h, List.take_of_length_le (show D.length ≤ M + 1 by omega), List.take_of_length_le (show D.length ≤ M by omega)]
    · rw [if_neg hl, List.reverse_append, List.reverse_singleton, List.singleton_append]
      congr 1
      rw [← List.dropLast_reverse, h]
      rw [List.dropLast_eq_take, List.length_take, List.take_take]
      congr 1
      omega
end Go.Proofs.Ytbmpclgibimopaa.Walk
