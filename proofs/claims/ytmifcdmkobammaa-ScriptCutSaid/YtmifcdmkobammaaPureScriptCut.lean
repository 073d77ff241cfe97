/- ScriptCut, the plain law: bytes that are cut are read up to the operation that is cut. -/
import Derived.Test.YtmifcdmkobammaaOScriptCut
import Derived.Test.YtmifcdmkobammaaCommon2
namespace Go.Proofs.Ytmifcdmkobammaa.Q
open Go.RowKit Go.Proofs.YtmifcdmkobammaaW.PrintWords Go.Proofs.YtmifcdmkobammaaW.PrintLast Go.Proofs.YtmifcdmkobammaaW.PrintMore Go.Proofs.Ytmifcdmkobammaa.ScriptWalk Go.Proofs.Ytmifcdmkobammaa.Parts
theorem one_of (l : List S31) (i : Nat) (h : i < l.length) : (l.take (i + 1)).drop i = [l[i]] := by
  rw [List.take_succ_eq_append_getElem h, List.drop_append_of_le_length (by rw [List.length_take]; omega), List.drop_of_length_le (by rw [List.length_take]; omega)]
  rfl
theorem cut_l1 (K : Nat) (x6 : List S31) (c m : Nat) (hK : 1000 ≤ K) (hr : x6.all right31 = true) (hl : x6.length ≤ 200) (hm : m ≤ x6.length) (h1 : ((x6.take m).flatMap wide31).length ≤ c) (h2 : ∀ h : m < x6.length, c < ((x6.take m).flatMap wide31).length + (wide31 x6[m]).length) :
    ∀ (d i : Nat), i + d = m → silhouettelaw12_ScriptCut.l1 (K + 1 + d) true x6 (c : Int) (x6.take m) (((x6.take m).flatMap wide31).length : Int) (if ((x6.take m).flatMap wide31).length = c then 0 else 12) (i : Int) (((x6.take i).flatMap wide31).length : Int) = some true := by
  have hfl := flat_len x6
  intro d
  induction d with
  | zero =>
    intro i hi
    obtain rfl : i = m := by omega
    have hml : (x6.take i).length = i := by rw [List.length_take]; omega
    have hP : ((x6.take i).flatMap wide31).length ≤ 25 * 200 := by have := flat_len (x6.take i); omega
    have hsame := same_refl (x6.take i) (by omega) (K := K) (by omega)
    have hend : (((if ((x6.take i).flatMap wide31).length = c then (0 : Int) else 12) == 0) == ((((x6.take i).flatMap wide31).length : Int) == (c : Int))) = true := by
      by_cases he : ((x6.take i).flatMap wide31).length = c
      · rw [if_pos he, he]; simp
      · rw [if_neg he, beq_eq_false_iff_ne.2 (show ((((x6.take i).flatMap wide31).length : Nat) : Int) ≠ (c : Int) by omega)]; rfl
    rw [Nat.add_zero, silhouettelaw12_ScriptCut.l1]
    by_cases hlt : i < x6.length
    · have hw : right31 x6[i] = true := List.all_eq_true.1 hr _ (List.getElem_mem hlt)
      have hput : script_Put.f K [x6[i]] = some (wide31 x6[i]) := by
        rw [put_at [x6[i]] (by simp) (by simp only [List.length_cons, List.length_nil]; omega), put_right (by simp [hw])]; simp
      have hwl := bytes31_len x6[i]
      rw [bytes_wide] at hwl
      have := h2 hlt
      rw [if_pos (by omega), if_pos (by omega), w64' (x := (i : Int) + 1) (by omega) (by omega), if_pos (by omega), if_pos (by omega)]
      rw [show ((i : Int) + 1).toNat = i + 1 by omega, Int.toNat_natCast, one_of x6 i hlt, hput, Option.bind_some, w64' (by omega) (by omega), if_neg (by omega), if_pos rfl, if_pos (by omega), hsame, Option.bind_some, if_pos rfl, if_pos rfl, hend]
    · rw [if_neg (by omega), if_pos rfl, if_pos (by omega), if_pos (by omega), Int.toNat_natCast, hsame, Option.bind_some, if_pos rfl, if_pos rfl, hend]
  | succ d ih =>
    intro i hi
    have hlt : i < x6.length := by omega
    have hw : right31 x6[i] = true := List.all_eq_true.1 hr _ (List.getElem_mem hlt)
    have hput : script_Put.f (K + 1 + d) [x6[i]] = some (wide31 x6[i]) := by
      rw [put_at [x6[i]] (by simp) (by simp only [List.length_cons, List.length_nil]; omega), put_right (by simp [hw])]; simp
    have hwl := bytes31_len x6[i]
    rw [bytes_wide] at hwl
    have hP := flat_len (x6.take i)
    rw [List.length_take] at hP
    have hstep := flat_take_succ x6 i hlt
    have hle : ((x6.take (i + 1)).flatMap wide31).length ≤ c := by
      have e : x6.take m = x6.take (i + 1) ++ (x6.take m).drop (i + 1) := by
        have := (List.take_append_drop (i + 1) (x6.take m)).symm
        rwa [List.take_take, Nat.min_eq_left (by omega)] at this
      rw [e, List.flatMap_append, List.length_append] at h1
      omega
    rw [show K + 1 + (d + 1) = (K + 1 + d) + 1 by omega, silhouettelaw12_ScriptCut.l1]
    rw [if_pos (by omega), if_pos (by omega), w64' (x := (i : Int) + 1) (by omega) (by omega), if_pos (by omega), if_pos (by omega)]
    rw [show ((i : Int) + 1).toNat = i + 1 by omega, Int.toNat_natCast, one_of x6 i hlt, hput, Option.bind_some, w64' (by omega) (by omega), if_pos (by omega), Option.bind_some]
    rw [show ((i : Int) + 1) = ((i + 1 : Nat) : Int) by omega, show ((((x6.take i).flatMap wide31).length : Int) + ((wide31 x6[i]).length : Int)) = ((((x6.take (i + 1)).flatMap wide31).length : Nat) : Int) by omega]
    rw [w64' (x := ((((x6.take (i + 1)).flatMap wide31).length : Nat) : Int)) (by omega) (by omega)]
    exact ih (i + 1) (by omega)
theorem cut_end (K : Nat) (hK : 3000 ≤ K) (x0 : List S31) (a1 i : Int) (x6 : List S31) (ha : 0 ≤ a1 ∧ a1 < 65536) (hr : x6.all right31 = true) (hf : ∀ o ∈ x6, Open.Fit o) (hl : x6.length ≤ 200) : silhouettelaw12_ScriptCut.j1 (K + 1) x0 a1 true x6 i false = some true := by
  have hlen := flat_len x6
  rw [silhouettelaw12_ScriptCut.j1, if_neg (by decide), put_at x6 (by omega) (by omega), Option.bind_some, put_right hr]
  by_cases h0 : ((x6.flatMap wide31).length : Int) = 0
  · rw [if_pos h0]
  · rw [if_neg h0]
    have hpos : 0 < (x6.flatMap wide31).length := by omega
    have ht : Int.tmod (wrap64 a1) ((x6.flatMap wide31).length : Int) = ((a1.toNat % (x6.flatMap wide31).length : Nat) : Int) := by
      rw [w64' (by omega) (by omega), Int.tmod_eq_emod_of_nonneg ha.1]
      conv => lhs; rw [← Int.toNat_of_nonneg ha.1]
      rfl
    have hclt := Nat.mod_lt a1.toNat hpos
    rw [ht]
    generalize a1.toNat % (x6.flatMap wide31).length = c at hclt
    obtain ⟨m, hm, h1, h2⟩ := cut_at x6 c (by omega)
    rw [if_pos (by omega), if_pos (by omega), Int.toNat_natCast, get_cut x6 hr hf (by omega) c m (by omega) hm h1 h2 (by omega), Option.bind_some]
    obtain ⟨j, rfl⟩ : ∃ j, K = j + 1 + m := ⟨K - 1 - m, by omega⟩
    have h := cut_l1 j x6 c m (by omega) hr hl hm h1 h2 m 0 (by omega)
    rw [show ((0 : Nat) : Int) = 0 from rfl, List.take_zero, List.flatMap_nil, List.length_nil] at h
    exact h
theorem cut_l0 (K : Nat) (hK : 3000 ≤ K) (x0 : List S31) (a1 : Int) (ha : 0 ≤ a1 ∧ a1 < 65536) (hf : ∀ o ∈ x0, Open.Fit o) : ∀ (m i : Nat) (x6 : List S31), i + m = min 200 x0.length → x6.all right31 = true → (∀ o ∈ x6, Open.Fit o) → x6.length ≤ i → silhouettelaw12_ScriptCut.l0 (K + 1 + 1 + 2 * m) x0 a1 true x6 (i : Int) = some true := by
  intro m
  induction m with
  | zero =>
    intro i x6 hi hr hf6 hl
    have hle : i ≤ 200 := by omega
    rw [Nat.mul_zero, Nat.add_zero, silhouettelaw12_ScriptCut.l0]
    by_cases hlt : (i : Int) < (x0.length : Int)
    · rw [if_pos hlt, decide_eq_false (by omega)]; exact cut_end K hK x0 a1 i x6 ha hr hf6 (by omega)
    · rw [if_neg hlt]; exact cut_end K hK x0 a1 i x6 ha hr hf6 (by omega)
  | succ m ih =>
    intro i x6 hi hr hf6 hl
    have hlt : i < x0.length := by omega
    have hfit : Open.Fit x0[i] := hf _ (List.getElem_mem hlt)
    rw [show K + 1 + 1 + 2 * (m + 1) = (K + 1 + 1 + 2 * m) + 1 + 1 by omega, silhouettelaw12_ScriptCut.l0, if_pos (by omega), decide_eq_true (by omega), silhouettelaw12_ScriptCut.j1, if_pos rfl, if_pos (by omega), if_pos (by omega), rd_in x0 i hlt, right_at, Option.bind_some]
    cases hri : right31 x0[i] with
    | true =>
      rw [if_pos rfl, if_pos (by omega), w64' (by omega) (by omega), show ((i : Int) + 1) = ((i + 1 : Nat) : Int) by omega]
      refine ih (i + 1) _ (by omega) ?_ ?_ (by simp only [List.length_append, List.length_cons, List.length_nil]; omega)
      · rw [List.all_append, hr, List.all_cons, hri]; rfl
      · intro o ho
        rcases List.mem_append.1 ho with h | h
        · exact hf6 o h
        · rw [List.mem_singleton.1 h]; exact hfit
    | false =>
      rw [if_neg (by decide), w64' (by omega) (by omega), show ((i : Int) + 1) = ((i + 1 : Nat) : Int) by omega]
      exact ih (i + 1) x6 (by omega) hr hf6 (by omega)
theorem cut_pure' (x0 : List S31) (a1 : Int) (ha : 0 ≤ a1 ∧ a1 < 65536) (hf : ∀ o ∈ x0, Open.Fit o) : silhouettelaw12_ScriptCut.f (3000 + 1 + 1 + 2 * min 200 x0.length) x0 a1 = some true := by
  unfold silhouettelaw12_ScriptCut.f silhouettelaw12_head.f
  rw [Option.bind_some]
  exact cut_l0 3000 (by decide) x0 a1 ha hf _ 0 [] (by omega) rfl (by simp) (by simp)
theorem cut_walk {A0 : Option Addr} {c0 : Nat} (l : List S31) (a1 : Int) (w : World) (w0 : ∀ o ∈ l, Open.Fit o) (y0 : Kd.C k31 w A0 l.length l ∧ l.length ≤ c0) (w1 : (Lit.int .u16 a1).wf = true) :
    Calls Try.prog 5 #[.slice A0 l.length c0, .int .u16 a1] w fun e w' => e = .returned (.bool true) ∧ Below w.heap.size w w' :=
  silhouettelaw12_ScriptCut.calls _ A0 c0 l a1 true rfl w y0.1 y0.2 (cut_pure' l a1 (Open.wf_u16 w1) w0)
end Go.Proofs.Ytmifcdmkobammaa.Q
