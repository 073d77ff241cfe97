/- Layer 12: more words for the plain laws: cut bytes, equal strings. -/
import Derived.Test.YtmifcdmkobammaaBack
import Derived.Lib.Bytes
namespace Go.Proofs.Ytmifcdmkobammaa.Q
open Go.RowKit Go.Proofs.YtmifcdmkobammaaW.PrintWords Go.Proofs.YtmifcdmkobammaaW.PrintLast Go.Proofs.YtmifcdmkobammaaW.PrintMore Go.Proofs.Ytmifcdmkobammaa.ScriptWalk Go.Proofs.Ytmifcdmkobammaa.Parts
theorem rd_in (l : List S31) (i : Nat) (h : i < l.length) : rd_T31 l (i : Int) = l[i] := by
  unfold rd_T31; rw [Int.toNat_natCast, List.getD_eq_getElem?_getD, List.getElem?_eq_getElem h]; rfl
theorem right_at (o : S31) : script_Right.f o.f0 o.f1 o.f2 o.f3 o.f4 o.f5 o.f6 = some (right31 o) := rfl
theorem get_all (l : List S31) (hr : l.all right31 = true) (hf : ∀ o ∈ l, Open.Fit o) (hl : l.length ≤ 10000000) {K : Nat} (hK : l.length + 1 ≤ K) : script_Get.f K (l.flatMap wide31) = some (l, ((l.flatMap wide31).length : Int), 0) := by
  have hlen := flat_len l
  unfold script_Get.f
  rw [if_pos ⟨flat_byte hr, by omega⟩]
  obtain ⟨j, rfl⟩ : ∃ j, K = (j + 1) + l.length := ⟨K - 1 - l.length, by omega⟩
  have h := getL_all (l.flatMap wide31).length [] l (j + 1) [] hr hf
  rw [List.append_nil, List.nil_append] at h
  rw [h]; rfl
theorem get_some (ys : List Int) (hb : ∀ y ∈ ys, 0 ≤ y ∧ y < 256) (hl : ys.length ≤ 1000000000) {K : Nat} (hK : ys.length + 1 ≤ K) : ∃ (l : List S31) (zs : List Int) (e : Int), script_Get.f K ys = some (l, (ys.length : Int) - (zs.length : Int), e) ∧ l.all right31 = true ∧ (∀ o ∈ l, Open.Fit o) ∧ ys = l.flatMap wide31 ++ zs ∧ l.length ≤ ys.length ∧ (e = 0 ∧ zs = [] ∨ e = 12 ∧ zs ≠ []) := by
  obtain ⟨l, zs, e, hg, h⟩ := getL_tells ys.length K ys [] hb (by omega)
  refine ⟨l, zs, e, ?_, h⟩
  unfold script_Get.f
  rw [if_pos ⟨hb, hl⟩, hg, List.nil_append]
theorem flat_inj {a b : List S31} (ha : a.all right31 = true) (hb : b.all right31 = true) (fa : ∀ o ∈ a, Open.Fit o) (fb : ∀ o ∈ b, Open.Fit o) (la : a.length ≤ 10000000) (lb : b.length ≤ 10000000) (h : a.flatMap wide31 = b.flatMap wide31) : a = b := by
  have h1 := get_all a ha fa la (K := a.length + b.length + 1) (by omega)
  have h2 := get_all b hb fb lb (K := a.length + b.length + 1) (by omega)
  rw [h, h2] at h1
  simp only [Option.some.injEq, Prod.mk.injEq] at h1
  exact h1.1.symm
theorem bytes_inj {p q : List Int} (hp : ∀ y ∈ p, 0 ≤ y ∧ y < 256) (hq : ∀ y ∈ q, 0 ≤ y ∧ y < 256) (h : (strOfNums p).toList = (strOfNums q).toList) : p = q := by
  rw [Lib.strOfNums_toList, Lib.strOfNums_toList] at h
  unfold Lib.bytesOf at h
  have hl : p.length = q.length := by have := congrArg List.length h; simpa using this
  refine List.ext_getElem hl fun i h1 h2 => ?_
  have e : (p.map fun n => UInt8.ofNat n.toNat)[i]'(by simpa using h1) = (q.map fun n => UInt8.ofNat n.toNat)[i]'(by simpa using h2) := by simp only [h]
  simp only [List.getElem_map] at e
  have b1 := hp _ (List.getElem_mem h1)
  have b2 := hq _ (List.getElem_mem h2)
  have e2 := congrArg UInt8.toNat e
  simp only [UInt8.toNat_ofNat'] at e2
  omega
theorem bytes_app (p q : List Int) : (strOfNums (p ++ q)).toList = (strOfNums p ++ strOfNums q).toList := by
  rw [Lib.toList_data, Lib.toList_data]
  simp [strOfNums]
theorem all_take {l : List S31} (h : l.all right31 = true) (i : Nat) : (l.take i).all right31 = true := List.all_eq_true.2 fun x hx => List.all_eq_true.1 h x (List.mem_of_mem_take hx)
theorem flat_take_succ (l : List S31) (i : Nat) (h : i < l.length) : ((l.take (i + 1)).flatMap wide31).length = ((l.take i).flatMap wide31).length + (wide31 l[i]).length := by
  rw [List.take_succ_eq_append_getElem h, List.flatMap_append, List.length_append]; simp
/-- How many operations lie whole in some first bytes. -/
theorem cut_at (l : List S31) : ∀ c, c ≤ (l.flatMap wide31).length → ∃ m, m ≤ l.length ∧ ((l.take m).flatMap wide31).length ≤ c ∧ (∀ h : m < l.length, c < ((l.take m).flatMap wide31).length + (wide31 l[m]).length) := by
  induction l with
  | nil => intro c hc; exact ⟨0, by simp, by simp, fun h => by simp at h⟩
  | cons o l ih =>
    intro c hc
    rw [List.flatMap_cons, List.length_append] at hc
    by_cases hlt : c < (wide31 o).length
    · exact ⟨0, by simp, by simp, fun h => by simpa using hlt⟩
    · obtain ⟨m, hm, h1, h2⟩ := ih (c - (wide31 o).length) (by omega)
      refine ⟨m + 1, by simpa using hm, ?_, fun h => ?_⟩
      · rw [List.take_succ_cons, List.flatMap_cons, List.length_append]; omega
      · have := h2 (by simpa using h)
        rw [List.take_succ_cons, List.flatMap_cons, List.length_append]
        simp only [List.getElem_cons_succ]
        omega
theorem get_cut (l : List S31) (hr : l.all right31 = true) (hf : ∀ o ∈ l, Open.Fit o) (hl : l.length ≤ 10000000) (c m : Nat) (hc : c ≤ (l.flatMap wide31).length) (hm : m ≤ l.length) (h1 : ((l.take m).flatMap wide31).length ≤ c) (h2 : ∀ h : m < l.length, c < ((l.take m).flatMap wide31).length + (wide31 l[m]).length) {K : Nat} (hK : l.length + 2 ≤ K) :
    script_Get.f K ((l.flatMap wide31).take c) = some (l.take m, (((l.take m).flatMap wide31).length : Int), if ((l.take m).flatMap wide31).length = c then 0 else 12) := by
  have hlen := flat_len l
  have hsp : l.flatMap wide31 = (l.take m).flatMap wide31 ++ (l.drop m).flatMap wide31 := by rw [← List.flatMap_append, List.take_append_drop]
  have hb : ∀ y ∈ (l.flatMap wide31).take c, 0 ≤ y ∧ y < 256 := fun y hy => flat_byte hr y (List.mem_of_mem_take hy)
  unfold script_Get.f
  rw [if_pos ⟨hb, by rw [List.length_take]; omega⟩]
  have htl : ((l.flatMap wide31).take c).length = c := by rw [List.length_take]; omega
  rw [htl]
  have hml : (l.take m).length = m := by rw [List.length_take]; omega
  obtain ⟨j, rfl⟩ : ∃ j, K = (j + 1) + (l.take m).length := ⟨K - 1 - m, by omega⟩
  have htk : (l.flatMap wide31).take c = (l.take m).flatMap wide31 ++ ((l.drop m).flatMap wide31).take (c - ((l.take m).flatMap wide31).length) := by
    rw [hsp, List.take_append, List.take_of_length_le h1]
  rw [htk, getL_all c _ (l.take m) (j + 1) [] (all_take hr m) (fun o ho => hf o (List.mem_of_mem_take ho)), List.nil_append]
  by_cases he : ((l.take m).flatMap wide31).length = c
  · rw [if_pos he, he, Nat.sub_self, List.take_zero]; rfl
  · rw [if_neg he]
    have hmlt : m < l.length := by
      rcases Nat.lt_or_ge m l.length with h | h
      · exact h
      · rw [List.take_of_length_le h] at h1 he; omega
    have hd : l.drop m = l[m] :: l.drop (m + 1) := List.drop_eq_getElem_cons hmlt
    have := h2 hmlt
    have hri : right31 l[m] = true := List.all_eq_true.1 hr _ (List.getElem_mem hmlt)
    rw [hd, List.flatMap_cons, List.take_append_of_le_length (by omega), getL_cut c j _ l[m] _ hri (by omega) (by omega)]
    congr 2
    congr 1
    omega
end Go.Proofs.Ytmifcdmkobammaa.Q
