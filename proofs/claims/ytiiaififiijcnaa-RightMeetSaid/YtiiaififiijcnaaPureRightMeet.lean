/- RightMeet over lists alone: a meet is under each of them; whatever is under each of them is under it; in any order, and with each twice, it is the same; for every input, no condition. -/
import Derived.Test.YtiiaififiijcnaaFacts
import Derived.Test.YtiiaififiijcnaaPRightMeetx4
namespace Go.Proofs.Ytiiaififiijcnaa.MeetPure
open Go.RowKit Go.Proofs.Ytiiaififiijcnaa.PRightMeet Go.Proofs.YtiiaififiijcnaaW.PrintWords Go.Proofs.YtiiaififiijcnaaW.PrintLast Go.Proofs.YtiiaififiijcnaaW.PrintMore
open Go.Proofs.Ytiiaififiijcnaa.Facts

theorem under_ge (k : Nat) (hk : 3 ≤ k) (x0 x1 x2 y0 y1 y2 : Bool) : right_Under.f k x0 x1 x2 y0 y1 y2 = some (underB x0 x1 x2 y0 y1 y2) :=
  at_rounds (right_Under.mono x0 x1 x2 y0 y1 y2) hk (under_f ..)
theorem under_cons : ∀ x0 x1 x2 y0 y1 y2 z0 z1 z2 : Bool, underB x0 x1 x2 (y0 && z0) (y1 && z1) (y2 && z2) = (underB x0 x1 x2 y0 y1 y2 && underB x0 x1 x2 z0 z1 z2) := by decide
theorem under_all (x0 x1 x2 : Bool) (l : List S26) : underB x0 x1 x2 (m0 l) (m1 l) (m2 l) = l.all (fun y => underB x0 x1 x2 y.f0 y.f1 y.f2) := by
  induction l with
  | nil => cases x0 <;> cases x1 <;> cases x2 <;> rfl
  | cons y r ih =>
    rw [List.all_cons, ← ih, ← under_cons]; rfl
theorem m0_at (l : List S26) (i : Nat) (h : i < l.length) (e : m0 l = true) : l[i].f0 = true := by
  unfold m0 at e; exact List.all_eq_true.1 e _ (List.getElem_mem h)
theorem m1_at (l : List S26) (i : Nat) (h : i < l.length) (e : m1 l = true) : l[i].f1 = true := by
  unfold m1 at e; exact List.all_eq_true.1 e _ (List.getElem_mem h)
theorem m2_at (l : List S26) (i : Nat) (h : i < l.length) (e : m2 l = true) : l[i].f2 = true := by
  unfold m2 at e; exact List.all_eq_true.1 e _ (List.getElem_mem h)
theorem under_of : ∀ x0 x1 x2 y0 y1 y2 : Bool, (x0 = true → y0 = true) → (x1 = true → y1 = true) → (x2 = true → y2 = true) → underB x0 x1 x2 y0 y1 y2 = true := by decide
theorem meet_under (l : List S26) (i : Nat) (h : i < l.length) : underB (m0 l) (m1 l) (m2 l) l[i].f0 l[i].f1 l[i].f2 = true :=
  under_of _ _ _ _ _ _ (m0_at l i h) (m1_at l i h) (m2_at l i h)
theorem m0_twice (r : List S26) (y : S26) : m0 (r ++ [y, y]) = (y.f0 && m0 r) := by unfold m0; simp [Bool.and_comm]
theorem m1_twice (r : List S26) (y : S26) : m1 (r ++ [y, y]) = (y.f1 && m1 r) := by unfold m1; simp [Bool.and_comm]
theorem m2_twice (r : List S26) (y : S26) : m2 (r ++ [y, y]) = (y.f2 && m2 r) := by unfold m2; simp [Bool.and_comm]
theorem eta (y : S26) : (⟨y.f0, y.f1, y.f2⟩ : S26) = y := rfl

theorem rounds (l : List S26) (hl : l.length ≤ 900) (x0 x1 x2 : Bool) (d : Nat) : ∀ (k i : Nat) (back : List S26), i + d = l.length → 2 * l.length + 10 + d ≤ k → back.length = 2 * i →
    m0 back = m0 (l.drop (l.length - i)) → m1 back = m1 (l.drop (l.length - i)) → m2 back = m2 (l.drop (l.length - i)) →
    silhouettelaw06_RightMeet.l0 k l true ((l.take i).all (fun y => underB x0 x1 x2 y.f0 y.f1 y.f2)) back (i : Int) x0 x1 x2 (m0 l) (m1 l) (m2 l) = some true := by
  induction d with
  | zero =>
    intro k i back hd hk hb h0 h1 h2
    obtain ⟨k, rfl⟩ : ∃ m, k = m + 1 := ⟨k - 1, by omega⟩
    have hi : i = l.length := by omega
    subst hi
    rw [Nat.sub_self, List.drop_zero] at h0 h1 h2
    simp only [silhouettelaw06_RightMeet.l0]
    rw [if_neg (by omega), if_pos trivial, under_ge k (by omega), Option.bind_some, List.take_length, under_all, if_pos (by simp), meet_f back (by omega) k (by omega), Option.bind_some, h0, h1, h2]
    rw [if_pos (by simp)]
    unfold right_All.f
    rw [Option.bind_some, under_ge k (by omega), Option.bind_some]
    congr 1
    exact under_of _ _ _ _ _ _ (fun _ => rfl) (fun _ => rfl) (fun _ => rfl)
  | succ d ih =>
    intro k i back hd hk hb h0 h1 h2
    obtain ⟨k, rfl⟩ : ∃ m, k = m + 1 := ⟨k - 1, by omega⟩
    have hi : i < l.length := by omega
    have hw : wrap64 ((i : Int) + 1) = ((i + 1 : Nat) : Int) := by unfold wrap64; omega
    have hr : rd_T26 l (i : Int) = l[i] := by simp [rd_T26, hi]
    have hj : wrap64 (wrap64 ((l.length : Int) - 1) - (i : Int)) = ((l.length - 1 - i : Nat) : Int) := by unfold wrap64; omega
    have hjl : l.length - 1 - i < l.length := by omega
    have hr2 : rd_T26 l ((l.length - 1 - i : Nat) : Int) = l[l.length - 1 - i] := by simp [rd_T26, hjl]
    have htake : (l.take (i + 1)).all (fun y => underB x0 x1 x2 y.f0 y.f1 y.f2) = ((l.take i).all (fun y => underB x0 x1 x2 y.f0 y.f1 y.f2) && underB x0 x1 x2 l[i].f0 l[i].f1 l[i].f2) := by
      rw [List.take_succ_eq_append_getElem hi, List.all_append]; simp only [List.all_cons, List.all_nil, Bool.and_true]
    have hdrop : l.drop (l.length - (i + 1)) = l[l.length - 1 - i] :: l.drop (l.length - i) := by
      have e : l.length - (i + 1) = l.length - 1 - i := by omega
      rw [e, List.drop_eq_getElem_cons hjl]; congr 2; omega
    have hnext := ih k (i + 1) (back ++ [l[l.length - 1 - i], l[l.length - 1 - i]]) (by omega) (by omega) (by simp [hb]; omega)
      (by rw [m0_twice, h0, hdrop]; rfl) (by rw [m1_twice, h1, hdrop]; rfl) (by rw [m2_twice, h2, hdrop]; rfl)
    rw [htake] at hnext
    have hmu := meet_under l i hi
    have hlen : (back ++ [l[l.length - 1 - i], l[l.length - 1 - i]]).length < 46912496118442 := by simp [hb]; omega
    have hlen2 : back.length + [l[l.length - 1 - i], l[l.length - 1 - i]].length < 46912496118442 := by simp [hb]; omega
    have hjp : (0 : Int) ≤ ((l.length - 1 - i : Nat) : Int) := Int.natCast_nonneg _
    have hjlt : ((l.length - 1 - i : Nat) : Int) < (l.length : Int) := by omega
    simp only [silhouettelaw06_RightMeet.l0]
    rw [if_pos (by omega : (i : Int) < (l.length : Int)), hr, hw, hj, hr2, under_ge k (by omega), under_ge k (by omega), Option.bind_some, hmu]
    by_cases hb7 : (l.take i).all (fun y => underB x0 x1 x2 y.f0 y.f1 y.f2) = true
    · rw [if_pos hb7, if_pos (by omega), Option.bind_some, if_pos rfl, if_pos hjp, if_pos hjlt, Option.bind_some, eta, if_pos hlen2]
      rw [hb7, Bool.true_and] at hnext
      exact hnext
    · rw [if_neg hb7, if_pos (by omega), Option.bind_some, if_pos rfl, if_pos hjp, if_pos hjlt, Option.bind_some, eta, if_pos hlen2]
      rw [Bool.eq_false_iff.2 hb7, Bool.false_and] at hnext
      exact hnext

theorem head_ge (k : Nat) (hk : 3 ≤ k) : silhouettelaw06_head.f k = some true := at_rounds silhouettelaw06_head.mono hk head_f

theorem meet_true (l : List S26) (x0 x1 x2 : Bool) : ∃ k, silhouettelaw06_RightMeet.f k l x0 x1 x2 = some true := by
  refine ⟨3 * l.length + 10, ?_⟩
  unfold silhouettelaw06_RightMeet.f
  rw [head_ge _ (by omega), Option.bind_some]
  by_cases h : (l.length : Int) > 900
  · rw [if_pos h]
  · rw [if_neg h, meet_f l (by omega) _ (by omega), Option.bind_some]
    have := rounds l (by omega) x0 x1 x2 l.length (3 * l.length + 10) 0 [] (by omega) (by omega) rfl (by simp) (by simp) (by simp)
    simpa using this

theorem walk (A : Option Addr) (c : Nat) (l : List S26) (x0 x1 x2 : Bool) (w : World) (hr : Kd.C k26 w A l.length l) (hc : l.length ≤ c) :
    Calls Try.prog 4 #[.slice A l.length c, .agg #[.bool x0, .bool x1, .bool x2]] w fun e w' => e = .returned (.bool true) ∧ Below w.heap.size w w' := by
  obtain ⟨k, h⟩ := meet_true l x0 x1 x2
  exact silhouettelaw06_RightMeet.calls k A c l x0 x1 x2 true w hr hc h
end Go.Proofs.Ytiiaififiijcnaa.MeetPure
