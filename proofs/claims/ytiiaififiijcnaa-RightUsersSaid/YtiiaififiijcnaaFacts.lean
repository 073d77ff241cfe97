/- Layer 6: what the functions of package right answer, as plain Lean functions; each one's contract, for every input. -/
import Derived.Test.YtiiaififiijcnaaPRightMeetx3
namespace Go.Proofs.Ytiiaififiijcnaa.Facts
open Go.RowKit Go.Proofs.Ytiiaififiijcnaa.PRightMeet Go.Proofs.YtiiaififiijcnaaW.PrintWords Go.Proofs.YtiiaififiijcnaaW.PrintLast Go.Proofs.YtiiaififiijcnaaW.PrintMore

/-- Has the second each of the three that the first has? -/
def underB (x0 x1 x2 y0 y1 y2 : Bool) : Bool := (!x0 || y0) && ((!x1 || y1) && (!x2 || y2))
/-- Is an access permitted? -/
def mayB (x0 x1 x2 : Bool) (k : Int) (u : Bool) : Bool := (x1 || !u) && (if k = 1 then x0 else if k = 2 then x2 else k == 0)
def bit (b : Bool) (n : Int) : Int := if b then n else 0
def codeI (k : Int) (u t b : Bool) : Int := bit t 1 + (bit (k == 1) 2 + (bit u 4 + (bit (t && b) 8 + bit (k == 2) 16)))
def m0 (l : List S26) : Bool := l.all (·.f0)
def m1 (l : List S26) : Bool := l.all (·.f1)
def m2 (l : List S26) : Bool := l.all (·.f2)

theorem meet_l0 (l : List S26) (hl : l.length ≤ 9223372036854775807) (d : Nat) : ∀ (k i : Nat) (b0 b1 b2 : Bool), i + d = l.length → d < k →
    right_Meet.l0 k l (l.length : Int) (i : Int) b0 b1 b2 = some (b0 && m0 (l.drop i), b1 && m1 (l.drop i), b2 && m2 (l.drop i)) := by
  induction d with
  | zero =>
    intro k i b0 b1 b2 hd hk
    obtain ⟨k, rfl⟩ : ∃ m, k = m + 1 := ⟨k - 1, by omega⟩
    simp only [right_Meet.l0]
    rw [if_neg (by omega), List.drop_of_length_le (by omega)]
    simp [m0, m1, m2]
  | succ d ih =>
    intro k i b0 b1 b2 hd hk
    obtain ⟨k, rfl⟩ : ∃ m, k = m + 1 := ⟨k - 1, by omega⟩
    have hi : i < l.length := by omega
    have hw : wrap64 ((i : Int) + 1) = ((i + 1 : Nat) : Int) := by unfold wrap64; omega
    have hr : rd_T26 l (i : Int) = l[i] := by simp [rd_T26, hi]
    have hd : l.drop i = l[i] :: l.drop (i + 1) := List.drop_eq_getElem_cons hi
    simp only [right_Meet.l0]
    rw [if_pos (by omega), if_pos (by omega), if_pos (by omega), hw, hr, hd]
    have H := fun c0 c1 c2 => ih k (i + 1) c0 c1 c2 (by omega) (by omega)
    have n0 : m0 (l[i] :: l.drop (i + 1)) = (l[i].f0 && m0 (l.drop (i + 1))) := rfl
    have n1 : m1 (l[i] :: l.drop (i + 1)) = (l[i].f1 && m1 (l.drop (i + 1))) := rfl
    have n2 : m2 (l[i] :: l.drop (i + 1)) = (l[i].f2 && m2 (l.drop (i + 1))) := rfl
    rw [n0, n1, n2]
    generalize ((i + 1 : Nat) : Int) = j at *
    generalize m0 (l.drop (i + 1)) = z0 at *
    generalize m1 (l.drop (i + 1)) = z1 at *
    generalize m2 (l.drop (i + 1)) = z2 at *
    cases b0 <;> cases b1 <;> cases b2 <;> simp [H]

theorem meet_f (l : List S26) (hl : l.length ≤ 9223372036854775807) (k : Nat) (hk : l.length < k) : right_Meet.f k l = some (m0 l, m1 l, m2 l) := by
  unfold right_Meet.f right_All.f
  rw [Option.bind_some]
  have := meet_l0 l hl l.length k 0 true true true (by omega) hk
  simpa using this

theorem under_f (x0 x1 x2 y0 y1 y2 : Bool) : right_Under.f 3 x0 x1 x2 y0 y1 y2 = some (underB x0 x1 x2 y0 y1 y2) := by
  unfold right_Under.f
  rw [meet_f _ (by simp) 3 (by simp), Option.bind_some]
  unfold underB m0 m1 m2
  cases x0 <;> cases x1 <;> cases x2 <;> cases y0 <;> cases y1 <;> cases y2 <;> rfl

theorem may_f (x0 x1 x2 : Bool) (k : Int) (u : Bool) : right_May.f 1 x0 x1 x2 k u = some (mayB x0 x1 x2 k u) := by
  unfold right_May.f mayB
  simp only [right_May.j0]
  by_cases h1 : k = 1
  · subst h1; cases x0 <;> cases x1 <;> cases x2 <;> cases u <;> rfl
  · by_cases h2 : k = 2
    · subst h2; cases x0 <;> cases x1 <;> cases x2 <;> cases u <;> rfl
    · by_cases h0 : k = 0
      · subst h0; cases x0 <;> cases x1 <;> cases x2 <;> cases u <;> rfl
      · rw [if_neg h1, if_neg h2, if_neg h0, if_neg h1, if_neg h2, if_neg h0]
        have : (k == 0) = false := beq_eq_false_iff_ne.2 h0
        rw [if_neg h1, if_neg h2, this]; cases x1 <;> simp

theorem code_f (k : Int) (u t b : Bool) : right_Code.f k u t b = some (codeI k u t b) := by
  unfold right_Code.f codeI right_part.f bit
  by_cases h1 : k = 1
  · subst h1; cases u <;> cases t <;> cases b <;> decide +kernel
  · have e1 : (k == 1) = false := beq_eq_false_iff_ne.2 h1
    rw [e1]
    by_cases h2 : k = 2
    · subst h2; cases u <;> cases t <;> cases b <;> decide +kernel
    · have e2 : (k == 2) = false := beq_eq_false_iff_ne.2 h2
      rw [e2]
      cases u <;> cases t <;> cases b <;> decide +kernel

set_option maxRecDepth 100000 in
theorem head_f : silhouettelaw06_head.f 3 = some true := by decide +kernel

theorem head_any (w : World) : Calls Try.prog 10 #[] w fun e w' => e = .returned (.bool true) ∧ Below w.heap.size w w' := silhouettelaw06_head.calls 3 true w head_f
theorem all_any (w : World) : Calls Try.prog 13 #[] w fun e w' => e = .returned (.agg #[.bool true, .bool true, .bool true]) ∧ Below w.heap.size w w' := right_All.calls true true true w rfl
theorem under_any (x0 x1 x2 y0 y1 y2 : Bool) (w : World) :
    Calls Try.prog 17 #[.agg #[.bool x0, .bool x1, .bool x2], .agg #[.bool y0, .bool y1, .bool y2]] w fun e w' => e = .returned (.bool (underB x0 x1 x2 y0 y1 y2)) ∧ Below w.heap.size w w' :=
  right_Under.calls 3 x0 x1 x2 y0 y1 y2 _ w (under_f ..)
theorem may_any (x0 x1 x2 : Bool) (k : Int) (u : Bool) (w : World) :
    Calls Try.prog 19 #[.agg #[.bool x0, .bool x1, .bool x2], .int .i64 k, .bool u] w fun e w' => e = .returned (.bool (mayB x0 x1 x2 k u)) ∧ Below w.heap.size w w' :=
  right_May.calls 1 x0 x1 x2 k u _ w (may_f ..)
theorem code_any (k : Int) (u t b : Bool) (w : World) :
    Calls Try.prog 21 #[.int .i64 k, .bool u, .bool t, .bool b] w fun e w' => e = .returned (.int .i64 (codeI k u t b)) ∧ Drawn0 w w' :=
  right_Code.calls k u t b _ w (code_f ..)
theorem meet_any (A : Option Addr) (c : Nat) (l : List S26) (w : World) (hr : Kd.C k26 w A l.length l) (hc : l.length ≤ c) :
    Calls Try.prog 15 #[.slice A l.length c] w fun e w' => e = .returned (.agg #[.bool (m0 l), .bool (m1 l), .bool (m2 l)]) ∧ Below w.heap.size w w' :=
  right_Meet.calls (l.length + 1) A c l _ _ _ w hr hc (meet_f l hr.2.1 _ (by omega))

end Go.Proofs.Ytiiaififiijcnaa.Facts
