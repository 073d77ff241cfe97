/- Layer 6: what the functions of package right answer, as plain Lean functions; those that RightParts needs. -/
import Derived.Test.YtiiaififiijcnaaPRightMeetx2
namespace Go.Proofs.Ytiiaififiijcnaa.FactsP
open Go.RowKit Go.Proofs.Ytiiaififiijcnaa.PRightMeet Go.Proofs.YtiiaififiijcnaaW.PrintWords Go.Proofs.YtiiaififiijcnaaW.PrintLast Go.Proofs.YtiiaififiijcnaaW.PrintMore

def m0 (l : List S26) : Bool := l.all (·.f0)
def m1 (l : List S26) : Bool := l.all (·.f1)
def m2 (l : List S26) : Bool := l.all (·.f2)

theorem meet_l0 (l : List S26) (hl : l.length ≤ 9223372036854775807) (d : Nat) : ∀ (k i : Nat) (b0 b1 b2 : Bool), i + d = l.length → d < k →
    right_Meet.l0 k l (l.length : Int) (i : Int) b0 b1 b2 = some (b0 && m0 (l.drop i), b1 && m1 (l.drop i), b2 && m2 (l.drop i)) := by
  induction d with
  | zero =>
    intro k i b0 b1 b2 hd hk
    obtain ⟨k, rfl⟩ : ∃ m, k = m + 1 := ⟨k - 1, by omega⟩
    simp only [right_Meet.l0]
    rw [if_neg (by omega), List.drop_of_length_le (by omega)]
    simp [m0, m1, m2]
  | succ d ih =>
    intro k i b0 b1 b2 hd hk
    obtain ⟨k, rfl⟩ : ∃ m, k = m + 1 := ⟨k - 1, by omega⟩
    have hi : i < l.length := by omega
    have hw : wrap64 ((i : Int) + 1) = ((i + 1 : Nat) : Int) := by unfold wrap64; omega
    have hr : rd_T26 l (i : Int) = l[i] := by simp [rd_T26, hi]
    have hd : l.drop i = l[i] :: l.drop (i + 1) := List.drop_eq_getElem_cons hi
    simp only [right_Meet.l0]
    rw [if_pos (by omega), if_pos (by omega), if_pos (by omega), hw, hr, hd]
    have H := fun c0 c1 c2 => ih k (i + 1) c0 c1 c2 (by omega) (by omega)
    have n0 : m0 (l[i] :: l.drop (i + 1)) = (l[i].f0 && m0 (l.drop (i + 1))) := rfl
    have n1 : m1 (l[i] :: l.drop (i + 1)) = (l[i].f1 && m1 (l.drop (i + 1))) := rfl
    have n2 : m2 (l[i] :: l.drop (i + 1)) = (l[i].f2 && m2 (l.drop (i + 1))) := rfl
    rw [n0, n1, n2]
    generalize ((i + 1 : Nat) : Int) = j at *
    generalize m0 (l.drop (i + 1)) = z0 at *
    generalize m1 (l.drop (i + 1)) = z1 at *
    generalize m2 (l.drop (i + 1)) = z2 at *
    cases b0 <;> cases b1 <;> cases b2 <;> simp [H]

theorem meet_f (l : List S26) (hl : l.length ≤ 9223372036854775807) (k : Nat) (hk : l.length < k) : right_Meet.f k l = some (m0 l, m1 l, m2 l) := by
  unfold right_Meet.f right_All.f
  rw [Option.bind_some]
  have := meet_l0 l hl l.length k 0 true true true (by omega) hk
  simpa using this

end Go.Proofs.Ytiiaififiijcnaa.FactsP
