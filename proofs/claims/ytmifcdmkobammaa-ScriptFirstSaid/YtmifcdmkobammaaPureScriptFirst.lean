/- ScriptFirst, the plain law: what stands behind the first operation that is none is not read. -/
import Derived.Test.YtmifcdmkobammaaOScriptFirst
import Derived.Test.YtmifcdmkobammaaCommon
namespace Go.Proofs.Ytmifcdmkobammaa.Q
open Go.RowKit Go.Proofs.YtmifcdmkobammaaW.PrintWords Go.Proofs.YtmifcdmkobammaaW.PrintLast Go.Proofs.YtmifcdmkobammaaW.PrintMore Go.Proofs.Ytmifcdmkobammaa.ScriptWalk Go.Proofs.Ytmifcdmkobammaa.Parts
theorem first_j1 (K : Nat) (hK : 1000 ≤ K) (l : List S31) (x1 x2 : List Int) (x3 : Int) (hr : l.all right31 = true) (hf : ∀ o ∈ l, Open.Fit o) (hl : l.length ≤ 200) (h1 : x1.length ≤ 900) (h2 : x2.length ≤ 900) (b1 : ∀ y ∈ x1, 0 ≤ y ∧ y < 256) (b2 : ∀ y ∈ x2, 0 ≤ y ∧ y < 256) (h30 : 0 ≤ x3) :
    silhouettelaw12_ScriptFirst.j1 (K + 1) l x1 x2 x3 true (l.flatMap wide31) false = some true := by
  have hlen := flat_len l
  have htm : Int.tmod x3 100 = x3 % 100 := Int.tmod_eq_emod_of_nonneg h30
  have hc : (9 + x3 % 100) % 256 = 9 + x3 % 100 := by omega
  rw [silhouettelaw12_ScriptFirst.j1]
  rw [if_neg (by decide), Option.bind_some, if_pos (by simp only [List.length_nil]; omega), Option.bind_some, List.nil_append, if_pos (by omega), Option.bind_some, htm, hc]
  rw [if_pos (by simp only [List.length_append, List.length_cons, List.length_nil]; omega)]
  rw [List.append_assoc, List.singleton_append, get_at l x1 _ hr hf (by omega) (by omega) b1 (by omega) (by omega) (by omega), Option.bind_some, Option.bind_some]
  rw [if_pos (by simp only [List.length_nil]; omega), Option.bind_some, List.nil_append, if_pos (by omega), Option.bind_some]
  rw [if_pos (by simp only [List.length_append, List.length_cons, List.length_nil]; omega)]
  rw [List.append_assoc, List.singleton_append, get_at l x2 _ hr hf (by omega) (by omega) b2 (by omega) (by omega) (by omega), Option.bind_some]
  rw [if_pos rfl, same_refl l (by omega) (by omega), Option.bind_some, if_pos rfl, Option.bind_some, if_pos rfl, if_pos rfl, if_pos rfl, if_pos rfl]
  rfl
theorem first_pure' (K : Nat) (hK : 1000 ≤ K) (l : List S31) (x1 x2 : List Int) (x3 : Int) (hf : ∀ o ∈ l, Open.Fit o) (b1 : ∀ y ∈ x1, 0 ≤ y ∧ y < 256) (b2 : ∀ y ∈ x2, 0 ≤ y ∧ y < 256) (h30 : 0 ≤ x3) : silhouettelaw12_ScriptFirst.f (K + 1 + 1) l x1 x2 x3 = some true := by
  have e : ∀ b, (b = false → l.length ≤ 200 ∧ x1.length ≤ 900 ∧ x2.length ≤ 900) → silhouettelaw12_ScriptFirst.j0 (K + 1 + 1) l x1 x2 x3 true b = some true := by
    intro b hb
    rw [silhouettelaw12_ScriptFirst.j0]
    cases b with
    | true => rfl
    | false =>
      obtain ⟨hl, h1, h2⟩ := hb rfl
      rw [if_neg (by decide), put_at l (by omega) (by omega), Option.bind_some]
      cases hr : l.all right31 with
      | true =>
        rw [put_right hr]
        have hj := first_j1 K hK l x1 x2 x3 hr hf hl h1 h2 b1 b2 h30
        by_cases h0 : (((l.flatMap wide31).length : Nat) : Int) = 0
        · rw [if_pos h0]
          have hln : l = [] := flat_none (by omega)
          subst hln
          exact hj
        · rw [if_neg h0]; exact hj
      | false =>
        rw [put_wrong hr, if_pos (by simp)]
        have hpos : 0 < l.length := by
          cases l with
          | nil => simp at hr
          | cons o l => simp
        rw [show decide ((l.length : Int) > 0) = true from decide_eq_true (by omega)]
        rw [silhouettelaw12_ScriptFirst.j1]
        rfl
  unfold silhouettelaw12_ScriptFirst.f silhouettelaw12_head.f
  rw [Option.bind_some]
  by_cases hl : (l.length : Int) > 200
  · rw [if_pos hl]; exact e true (fun h => by cases h)
  · rw [if_neg hl]
    by_cases h1 : (x1.length : Int) > 900
    · rw [if_pos h1]; exact e true (fun h => by cases h)
    · rw [if_neg h1]
      exact e _ (fun h => ⟨by omega, by omega, by have := of_decide_eq_false h; omega⟩)
theorem first_walk {A0 A1 A2 : Option Addr} {c0 c1 c2 : Nat} (l : List S31) (x1 x2 : List Int) (x3 : Int) (w : World) (w0 : ∀ o ∈ l, Open.Fit o) (y0 : Kd.C k31 w A0 l.length l ∧ l.length ≤ c0) (w1 : ∀ y ∈ x1, 0 ≤ y ∧ y < 256) (y1 : Kd.C (Kd.int .u8) w A1 x1.length x1 ∧ x1.length ≤ c1)
    (w2 : ∀ y ∈ x2, 0 ≤ y ∧ y < 256) (y2 : Kd.C (Kd.int .u8) w A2 x2.length x2 ∧ x2.length ≤ c2) (w3 : (Lit.int .u8 x3).wf = true) :
    Calls Try.prog 9 #[.slice A0 l.length c0, .slice A1 x1.length c1, .slice A2 x2.length c2, .int .u8 x3] w fun e w' => e = .returned (.bool true) ∧ Below w.heap.size w w' :=
  silhouettelaw12_ScriptFirst.calls (1000 + 1 + 1) A0 c0 l A1 c1 x1 A2 c2 x2 x3 true rfl w y0.1 y0.2 y1.1 y1.2 y2.1 y2.2 (first_pure' 1000 (by decide) l x1 x2 x3 w0 w1 w2 (Open.wf_u8 w3).1)
end Go.Proofs.Ytmifcdmkobammaa.Q
