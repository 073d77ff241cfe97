/- ScriptRow, the plain law: operations' bytes, one behind the other, are the bytes of all; unlike right ones have unlike bytes. -/
import Derived.Test.YtmifcdmkobammaaOScriptRow
import Derived.Test.YtmifcdmkobammaaCommon2
namespace Go.Proofs.Ytmifcdmkobammaa.Q
open Go.RowKit Go.Proofs.YtmifcdmkobammaaW.PrintWords Go.Proofs.YtmifcdmkobammaaW.PrintLast Go.Proofs.YtmifcdmkobammaaW.PrintMore Go.Proofs.Ytmifcdmkobammaa.ScriptWalk Go.Proofs.Ytmifcdmkobammaa.Parts
theorem row_j1 (K : Nat) (hK : 2000 ≤ K) (a b : List S31) (ha : a.all right31 = true) (hb : b.all right31 = true) (fa : ∀ o ∈ a, Open.Fit o) (fb : ∀ o ∈ b, Open.Fit o) (la : a.length ≤ 400) (lb : b.length ≤ 400) :
    silhouettelaw12_ScriptRow.j1 (K + 1) a b true (a.flatMap wide31) (b.flatMap wide31) false = some true := by
  have hla := flat_len a
  have hlb := flat_len b
  have hall : (a ++ b).all right31 = true := by rw [List.all_append, ha, hb]; rfl
  obtain ⟨s, hs, hsb⟩ := same_at a b (by omega) (K := K) (by omega)
  have hcmp : ((strOfNums (a.flatMap wide31)).toList == (strOfNums (b.flatMap wide31)).toList) = s := by
    cases s with
    | true => rw [hsb.1 rfl]; simp
    | false =>
      refine beq_eq_false_iff_ne.2 fun h => ?_
      have := hsb.2 (flat_inj ha hb fa fb (by omega) (by omega) (bytes_inj (flat_byte ha) (flat_byte hb) h))
      cases this
  rw [silhouettelaw12_ScriptRow.j1, if_neg (by decide), Option.bind_some, if_pos (by simp only [List.length_nil]; omega), Option.bind_some, List.nil_append, if_pos (by omega), put_at (a ++ b) (by rw [List.length_append]; omega) (by rw [List.length_append]; omega), Option.bind_some, if_pos rfl, if_pos (by rw [strOfNums_size, strOfNums_size]; omega)]
  rw [put_right hall, List.flatMap_append, if_pos (bytes_app _ _), hs, Option.bind_some, hcmp]
  simp
theorem row_j1_true (K : Nat) (a b : List S31) (p q : List Int) : silhouettelaw12_ScriptRow.j1 (K + 1) a b true p q true = some true := by
  rw [silhouettelaw12_ScriptRow.j1]; rfl
theorem put_len (l : List S31) : ((putAll l).length = 0 → 0 < l.length → l.all right31 = false) := by
  intro h hp
  cases hr : l.all right31 with
  | false => rfl
  | true =>
    rw [put_right hr] at h
    rw [flat_none h] at hp
    simp at hp
theorem row_pure' (K : Nat) (hK : 2000 ≤ K) (a b : List S31) (fa : ∀ o ∈ a, Open.Fit o) (fb : ∀ o ∈ b, Open.Fit o) : silhouettelaw12_ScriptRow.f (K + 1 + 1) a b = some true := by
  have e : ∀ t, (t = false → a.length ≤ 400 ∧ b.length ≤ 400) → silhouettelaw12_ScriptRow.j0 (K + 1 + 1) a b true t = some true := by
    intro t h
    cases t with
    | true => rw [silhouettelaw12_ScriptRow.j0]; rfl
    | false =>
      obtain ⟨la, lb⟩ := h rfl
      rw [silhouettelaw12_ScriptRow.j0, if_neg (by decide), put_at a (by omega) (by omega), Option.bind_some, put_at b (by omega) (by omega), Option.bind_some]
      by_cases ha0 : 0 < a.length ∧ a.all right31 = false
      · rw [put_wrong ha0.2, if_pos (by simp), if_pos (by omega)]
        exact row_j1_true _ _ _ _ _
      · have ha : a.all right31 = true := by
          cases h : a.all right31 with
          | true => rfl
          | false =>
            exfalso
            cases a with
            | nil => simp at h
            | cons x xs => exact ha0 ⟨by simp, h⟩
        have hpa : ((putAll a).length : Int) = 0 → ¬ (a.length : Int) > 0 := fun h hg => ha0 ⟨by omega, put_len a (by omega) (by omega)⟩
        by_cases hb0 : 0 < b.length ∧ b.all right31 = false
        · rw [put_wrong hb0.2]
          have hgt : decide ((b.length : Int) > 0) = true := decide_eq_true (by omega)
          by_cases h0 : ((putAll a).length : Int) = 0
          · rw [if_pos h0, if_neg (hpa h0), if_pos (by simp), hgt]; exact row_j1_true _ _ _ _ _
          · rw [if_neg h0, if_pos (by simp), hgt]; exact row_j1_true _ _ _ _ _
        · have hb : b.all right31 = true := by
            cases h : b.all right31 with
            | true => rfl
            | false =>
              exfalso
              cases b with
              | nil => simp at h
              | cons x xs => exact hb0 ⟨by simp, h⟩
          have hpb : ((putAll b).length : Int) = 0 → decide ((b.length : Int) > 0) = false := fun h => decide_eq_false fun hg => hb0 ⟨by omega, put_len b (by omega) (by omega)⟩
          have hj := row_j1 K hK a b ha hb fa fb la lb
          rw [← put_right ha, ← put_right hb] at hj
          by_cases h0 : ((putAll a).length : Int) = 0
          · rw [if_pos h0, if_neg (hpa h0)]
            by_cases h1 : ((putAll b).length : Int) = 0
            · rw [if_pos h1, hpb h1]; exact hj
            · rw [if_neg h1]; exact hj
          · rw [if_neg h0]
            by_cases h1 : ((putAll b).length : Int) = 0
            · rw [if_pos h1, hpb h1]; exact hj
            · rw [if_neg h1]; exact hj
  unfold silhouettelaw12_ScriptRow.f silhouettelaw12_head.f
  rw [Option.bind_some]
  by_cases hl : (a.length : Int) > 400
  · rw [if_pos hl]; exact e true (fun h => by cases h)
  · rw [if_neg hl]
    exact e _ (fun h => ⟨by omega, by have := of_decide_eq_false h; omega⟩)
theorem row_walk {A0 A1 : Option Addr} {c0 c1 : Nat} (a b : List S31) (w : World) (w0 : ∀ o ∈ a, Open.Fit o) (y0 : Kd.C k31 w A0 a.length a ∧ a.length ≤ c0) (w1 : ∀ o ∈ b, Open.Fit o) (y1 : Kd.C k31 w A1 b.length b ∧ b.length ≤ c1) :
    Calls Try.prog 6 #[.slice A0 a.length c0, .slice A1 b.length c1] w fun e w' => e = .returned (.bool true) ∧ Below w.heap.size w w' :=
  silhouettelaw12_ScriptRow.calls (2000 + 1 + 1) A0 c0 a A1 c1 b true rfl w y0.1 y0.2 y1.1 y1.2 (row_pure' 2000 (by decide) a b w0 w1)
end Go.Proofs.Ytmifcdmkobammaa.Q
