/- Layer 12: what script.Put writes, in plain Lean. -/
import Derived.Test.YtmifcdmkobammaaY2
import Derived.Test.YtmifcdmkobammaaYh
namespace Go.Proofs.Ytmifcdmkobammaa.Q
open Go.RowKit Go.Proofs.YtmifcdmkobammaaW.PrintWords Go.Proofs.YtmifcdmkobammaaW.PrintLast Go.Proofs.YtmifcdmkobammaaW.PrintMore Go.Proofs.Ytmifcdmkobammaa.ScriptWalk Go.Proofs.Ytmifcdmkobammaa.Parts
theorem w64' {x : Int} (h0 : -9223372036854775808 ≤ x) (h1 : x < 9223372036854775808) : wrap64 x = x := by
  rw [← i64_w, IntKind.wrap_i64]; omega
def bytes31 (o : S31) : List Int := opBytes o.f0 o.f1 o.f2 o.f3 o.f4 o.f5 o.f6
theorem right_kind {o : S31} (h : right31 o = true) : 0 ≤ o.f0 ∧ o.f0 ≤ 8 := by
  rcases kinds o.f0 with e | e | e | e | e | e | e | e | e | e
  iterate 9 · omega
  · exfalso
    unfold right31 rightB at h
    have hp : (pt o.f0).toList = [] := by unfold pt; rw [letters_no e]; decide +kernel
    rw [hp] at h
    simp at h
theorem bytes31_len (o : S31) : (bytes31 o).length ≤ 25 := by
  unfold bytes31 opBytes
  have := wroteAll_len o.f2 o.f3 o.f4 o.f5 o.f6 (letters o.f0)
  have := letters_len o.f0
  simp only [List.length_cons]; omega
def putAll (l : List S31) : List Int := if l.all right31 = true then l.flatMap bytes31 else []
theorem put_loop (l : List S31) (hl : l.length ≤ 1000000000) : ∀ (m i : Nat) (x3 : List Int), i + m = l.length → x3.length ≤ 25 * i → script_Put.l0 (m + 1) x3 l (l.length : Int) (i : Int) = if (l.drop i).all right31 = true then some (x3 ++ (l.drop i).flatMap bytes31) else some [] := by
  intro m
  induction m with
  | zero =>
    intro i x3 hi _
    have hd : l.drop i = [] := List.drop_of_length_le (by omega)
    rw [hd]
    unfold script_Put.l0
    rw [if_neg (by omega)]
    simp
  | succ m ih =>
    intro i x3 hi hx
    have hil : i < l.length := by omega
    have hd : l.drop i = l[i] :: l.drop (i + 1) := List.drop_eq_getElem_cons hil
    have hr : rd_T31 l (i : Int) = l[i] := by unfold rd_T31; rw [Int.toNat_natCast, List.getD_eq_getElem?_getD, List.getElem?_eq_getElem hil]; rfl
    unfold script_Put.l0
    rw [if_pos (by omega), if_pos (by omega), if_pos (by omega), hr, hd]
    have e : script_Right.f l[i].f0 l[i].f1 l[i].f2 l[i].f3 l[i].f4 l[i].f5 l[i].f6 = some (right31 l[i]) := rfl
    rw [e, Option.bind_some]
    cases h : right31 l[i] with
    | false => rw [if_neg (by decide), List.all_cons, h, Bool.false_and, if_neg (by decide)]
    | true =>
      have hk := right_kind h
      have ep : script_put.f x3 l[i].f0 l[i].f1 l[i].f2 l[i].f3 l[i].f4 l[i].f5 l[i].f6 = some (x3 ++ bytes31 l[i]) := if_pos ⟨hk.1, hk.2, by omega⟩
      rw [if_pos rfl, ep, Option.bind_some, w64' (by omega) (by omega), show ((i : Int) + 1) = ((i + 1 : Nat) : Int) by omega, ih (i + 1) _ (by omega) (by have := bytes31_len l[i]; rw [List.length_append]; omega), List.all_cons, h, Bool.true_and, List.flatMap_cons, List.append_assoc]
theorem put_law (l : List S31) (hl : l.length ≤ 1000000000) : script_Put.f (l.length + 1) l = some (putAll l) := by
  have h := put_loop l hl l.length 0 [] (by omega) (by simp)
  unfold script_Put.f putAll
  rw [show ((0 : Nat) : Int) = 0 from rfl] at h
  rw [h]
  simp only [List.drop_zero, List.nil_append]
  split <;> rfl
end Go.Proofs.Ytmifcdmkobammaa.Q
