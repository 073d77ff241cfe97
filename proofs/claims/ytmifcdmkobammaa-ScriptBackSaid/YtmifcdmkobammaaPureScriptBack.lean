/- ScriptBack, the plain law: right operations are got of their bytes; what is got of any bytes is right, and has the first ones of them. -/
import Derived.Test.YtmifcdmkobammaaOScriptBack
import Derived.Test.YtmifcdmkobammaaCommon2
namespace Go.Proofs.Ytmifcdmkobammaa.Q
open Go.RowKit Go.Proofs.YtmifcdmkobammaaW.PrintWords Go.Proofs.YtmifcdmkobammaaW.PrintLast Go.Proofs.YtmifcdmkobammaaW.PrintMore Go.Proofs.Ytmifcdmkobammaa.ScriptWalk Go.Proofs.Ytmifcdmkobammaa.Parts
theorem back_l1 (K : Nat) (x1 : List Int) (y : List S31) (n e : Int) (hy : y.length ≤ 1000000000) (hr : y.all right31 = true) : ∀ (m i : Nat), i + m = y.length → silhouettelaw12_ScriptBack.l1 (K + 1 + m) x1 true y n e (i : Int) = silhouettelaw12_ScriptBack.l1 (K + 1) x1 true y n e (y.length : Int) := by
  intro m
  induction m with
  | zero => intro i hi; rw [show i = y.length by omega]
  | succ m ih =>
    intro i hi
    have hil : i < y.length := by omega
    have hri : right31 y[i] = true := List.all_eq_true.1 hr _ (List.getElem_mem hil)
    rw [show K + 1 + (m + 1) = (K + 1 + m) + 1 by omega]
    rw [silhouettelaw12_ScriptBack.l1]
    rw [if_pos (by omega), if_pos (by omega), rd_in y i hil, right_at, Option.bind_some, hri, if_pos rfl, w64' (by omega) (by omega), show ((i : Int) + 1) = ((i + 1 : Nat) : Int) by omega]
    exact ih (i + 1) (by omega)
theorem back_j2 (K : Nat) (x1 : List Int) (hK : 20000 ≤ K) (hb : ∀ y ∈ x1, 0 ≤ y ∧ y < 256) (hl : x1.length ≤ 9000) : silhouettelaw12_ScriptBack.j2 (K + 1) x1 true = some true := by
  obtain ⟨l, zs, e, hg, hr, hf, he, hll, hend⟩ := get_some x1 hb (by omega) (K := K) (by omega)
  rw [silhouettelaw12_ScriptBack.j2, hg, Option.bind_some]
  obtain ⟨j, rfl⟩ : ∃ j, K = j + 1 + l.length := ⟨K - 1 - l.length, by omega⟩
  have h1 := back_l1 j x1 l ((x1.length : Int) - (zs.length : Int)) e (by omega) hr l.length 0 (by omega)
  rw [show ((0 : Nat) : Int) = 0 from rfl] at h1
  rw [h1, silhouettelaw12_ScriptBack.l1]
  have hlen : x1.length = (l.flatMap wide31).length + zs.length := by rw [he, List.length_append]
  rw [if_neg (by omega), if_pos rfl, if_pos (by omega), if_pos (by omega), put_at l (by omega) (by omega), Option.bind_some, if_pos (by omega), put_right hr]
  have ht : x1.take ((x1.length : Int) - (zs.length : Int)).toNat = l.flatMap wide31 := by
    rw [show ((x1.length : Int) - (zs.length : Int)).toNat = (l.flatMap wide31).length by omega, he, List.take_left]
  rw [ht, if_pos rfl]
  rcases hend with ⟨rfl, rfl⟩ | ⟨rfl, hz⟩
  · rw [if_pos (by simp), if_pos rfl]
  · have hz' : 0 < zs.length := List.length_pos_iff.2 hz
    rw [if_pos (by rw [show ((12 : Int) == 0) = false from rfl, beq_eq_false_iff_ne.2 (show (x1.length : Int) - (zs.length : Int) ≠ (x1.length : Int) by omega)]; rfl), if_neg (by decide)]
    rfl
theorem back_l0 (K : Nat) (x0 : List S31) (x1 : List Int) (hy : x0.length ≤ 1000000000) : ∀ (m i : Nat) (b : Bool), i + m = x0.length → silhouettelaw12_ScriptBack.l0 (K + 1 + m) x0 x1 true b (i : Int) = silhouettelaw12_ScriptBack.l0 (K + 1) x0 x1 true (b && (x0.drop i).all right31) (x0.length : Int) := by
  intro m
  induction m with
  | zero => intro i b hi; rw [show i = x0.length by omega, List.drop_length]; simp
  | succ m ih =>
    intro i b hi
    have hil : i < x0.length := by omega
    have hd : x0.drop i = x0[i] :: x0.drop (i + 1) := List.drop_eq_getElem_cons hil
    rw [show K + 1 + (m + 1) = (K + 1 + m) + 1 by omega]
    rw [silhouettelaw12_ScriptBack.l0]
    rw [if_pos (by omega), w64' (by omega) (by omega), show ((i : Int) + 1) = ((i + 1 : Nat) : Int) by omega, hd, List.all_cons]
    cases b with
    | true => rw [if_pos rfl, if_pos (by omega), rd_in x0 i hil, right_at, Option.bind_some, ih (i + 1) _ (by omega)]; simp
    | false => rw [if_neg (by decide), ih (i + 1) _ (by omega)]; simp
theorem back_j0 (K : Nat) (hK : 30000 ≤ K) (l : List S31) (x1 : List Int) (hf : ∀ o ∈ l, Open.Fit o) (hb : ∀ y ∈ x1, 0 ≤ y ∧ y < 256) (hl : l.length ≤ 900) (hx : x1.length ≤ 9000) : silhouettelaw12_ScriptBack.j0 (K + 1) l x1 true false = some true := by
  rw [silhouettelaw12_ScriptBack.j0, if_neg (by decide)]
  obtain ⟨j, rfl⟩ : ∃ j, K = (j + 1) + 1 + l.length := ⟨K - 2 - l.length, by omega⟩
  have h1 := back_l0 (j + 1) l x1 (by omega) l.length 0 true (by omega)
  rw [show ((0 : Nat) : Int) = 0 from rfl, List.drop_zero, Bool.true_and] at h1
  rw [h1, silhouettelaw12_ScriptBack.l0, if_neg (by omega), put_at l (by omega) (by omega), Option.bind_some]
  have hj := back_j2 j x1 (by omega) hb hx
  cases hr : l.all right31 with
  | true => rw [if_pos rfl, put_right hr, get_all l hr hf (by omega) (by omega), Option.bind_some, same_refl l (by omega) (by omega), Option.bind_some, if_pos rfl, if_pos rfl, if_pos rfl, hj]
  | false => rw [if_neg (by decide), put_wrong hr, if_neg (by simp), hj]
theorem back_pure' (K : Nat) (hK : 30000 ≤ K) (l : List S31) (x1 : List Int) (hf : ∀ o ∈ l, Open.Fit o) (hb : ∀ y ∈ x1, 0 ≤ y ∧ y < 256) : silhouettelaw12_ScriptBack.f (K + 1) l x1 = some true := by
  have e : ∀ b, (b = false → l.length ≤ 900 ∧ x1.length ≤ 9000) → silhouettelaw12_ScriptBack.j0 (K + 1) l x1 true b = some true := by
    intro b h
    cases b with
    | true => rw [silhouettelaw12_ScriptBack.j0]; rfl
    | false => exact back_j0 K hK l x1 hf hb (h rfl).1 (h rfl).2
  unfold silhouettelaw12_ScriptBack.f silhouettelaw12_head.f
  rw [Option.bind_some]
  by_cases hl : (l.length : Int) > 900
  · rw [if_pos hl]; exact e true (fun h => by cases h)
  · rw [if_neg hl]
    exact e _ (fun h => ⟨by omega, by have := of_decide_eq_false h; omega⟩)
theorem back_walk {A0 A1 : Option Addr} {c0 c1 : Nat} (l : List S31) (x1 : List Int) (w : World) (w0 : ∀ o ∈ l, Open.Fit o) (y0 : Kd.C k31 w A0 l.length l ∧ l.length ≤ c0) (w1 : ∀ y ∈ x1, 0 ≤ y ∧ y < 256) (y1 : Kd.C (Kd.int .u8) w A1 x1.length x1 ∧ x1.length ≤ c1) :
    Calls Try.prog 4 #[.slice A0 l.length c0, .slice A1 x1.length c1] w fun e w' => e = .returned (.bool true) ∧ Below w.heap.size w w' :=
  silhouettelaw12_ScriptBack.calls (30000 + 1) A0 c0 l A1 c1 x1 true rfl w y0.1 y0.2 y1.1 y1.2 (back_pure' 30000 (by decide) l x1 w0 w1)
end Go.Proofs.Ytmifcdmkobammaa.Q
