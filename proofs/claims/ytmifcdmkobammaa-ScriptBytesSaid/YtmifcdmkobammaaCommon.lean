/- Layer 12: words for the plain laws. -/
import Derived.Test.YtmifcdmkobammaaSameL
import Derived.Test.YtmifcdmkobammaaTrip2
namespace Go.Proofs.Ytmifcdmkobammaa.Q
open Go.RowKit Go.Proofs.YtmifcdmkobammaaW.PrintWords Go.Proofs.YtmifcdmkobammaaW.PrintLast Go.Proofs.YtmifcdmkobammaaW.PrintMore Go.Proofs.Ytmifcdmkobammaa.ScriptWalk Go.Proofs.Ytmifcdmkobammaa.Parts
theorem lift {α : Type} {f : Nat → Option α} (h : ∀ k, LeO (f k) (f (k + 1))) {n m : Nat} (hm : n ≤ m) {r : α} (hr : f n = some r) : f m = some r := by
  induction m with
  | zero => have : n = 0 := by omega
            subst this; exact hr
  | succ m ih =>
    rcases Nat.lt_or_ge n (m + 1) with h1 | h1
    · exact h m r (ih (by omega))
    · have : n = m + 1 := by omega
      subst this; exact hr
theorem put_at (l : List S31) (hl : l.length ≤ 1000000000) {K : Nat} (hK : l.length + 1 ≤ K) : script_Put.f K l = some (putAll l) :=
  lift (f := fun k => script_Put.f k l) (fun k => script_Put.mono l k) hK (put_law l hl)
theorem same_at (x0 x1 : List S31) (hl : x0.length ≤ 1000000000) {K : Nat} (hK : x0.length + 1 ≤ K) : ∃ b, silhouetteref12_Same.f K x0 x1 = some b ∧ (b = true ↔ x0 = x1) := by
  obtain ⟨b, h, hb⟩ := same_law x0 x1 hl
  exact ⟨b, lift (f := fun k => silhouetteref12_Same.f k x0 x1) (fun k => silhouetteref12_Same.mono x0 x1 k) hK h, hb⟩
theorem same_refl (x : List S31) (hl : x.length ≤ 1000000000) {K : Nat} (hK : x.length + 1 ≤ K) : silhouetteref12_Same.f K x x = some true := by
  obtain ⟨b, h, hb⟩ := same_at x x hl hK
  rw [hb.2 rfl] at h; exact h
theorem bytes_wide {o : S31} : bytes31 o = wide31 o := rfl
theorem top_byte (a : Int) (j : Nat) : ∀ y ∈ top a j, 0 ≤ y ∧ y < 256 := by
  intro y hy
  unfold top at hy
  obtain ⟨q, _, rfl⟩ := List.mem_map.1 hy
  omega
theorem wrote_byte (a v g i n : Int) (c : UInt8) : ∀ y ∈ wrote a v g i n c, 0 ≤ y ∧ y < 256 := by
  intro y hy
  unfold wrote at hy
  split at hy
  · exact top_byte _ _ y hy
  split at hy
  · exact top_byte _ _ y hy
  split at hy
  · simp at hy; omega
  split at hy
  · simp at hy; omega
  split at hy
  · simp at hy; omega
  · cases hy
theorem wide_byte {o : S31} (h : right31 o = true) : ∀ y ∈ wide31 o, 0 ≤ y ∧ y < 256 := by
  intro y hy
  obtain ⟨k0, k8, _⟩ := right31_facts h
  unfold wide31 at hy
  rcases List.mem_cons.1 hy with rfl | hy
  · split <;> omega
  · obtain ⟨c, _, hc⟩ := List.mem_flatMap.1 hy
    exact wrote_byte _ _ _ _ _ c y hc
theorem put_right {l : List S31} (h : l.all right31 = true) : putAll l = l.flatMap wide31 := if_pos h
theorem put_wrong {l : List S31} (h : l.all right31 = false) : putAll l = [] := by unfold putAll; rw [h]; rfl
theorem flat_byte {l : List S31} (h : l.all right31 = true) : ∀ y ∈ l.flatMap wide31, 0 ≤ y ∧ y < 256 := by
  intro y hy
  obtain ⟨o, ho, hy⟩ := List.mem_flatMap.1 hy
  exact wide_byte (List.all_eq_true.1 h o ho) y hy
theorem flat_len (l : List S31) : (l.flatMap wide31).length ≤ 25 * l.length := by
  induction l with
  | nil => simp
  | cons o l ih =>
    have := bytes31_len o
    rw [bytes_wide] at this
    rw [List.flatMap_cons, List.length_append, List.length_cons]; omega
theorem flat_none {l : List S31} (h : (l.flatMap wide31).length = 0) : l = [] := by
  cases l with
  | nil => rfl
  | cons o l => rw [List.flatMap_cons, List.length_append] at h; simp [wide31] at h
/-- script.Get of right operations' bytes and of a byte that begins none. -/
theorem get_at (l : List S31) (ys : List Int) (c : Int) (hr : l.all right31 = true) (hf : ∀ o ∈ l, Open.Fit o) (hl : l.length ≤ 10000000) (hy : ys.length ≤ 10000000) (hb : ∀ y ∈ ys, 0 ≤ y ∧ y < 256) (hc : 9 ≤ c) (hc1 : c < 128) {K : Nat} (hK : l.length + 1 ≤ K) :
    script_Get.f K (l.flatMap wide31 ++ c :: ys) = some (l, ((l.flatMap wide31).length : Int), 12) := by
  have hlen := flat_len l
  have hbytes : ∀ y ∈ l.flatMap wide31 ++ c :: ys, 0 ≤ y ∧ y < 256 := by
    intro y hy'
    rcases List.mem_append.1 hy' with h | h
    · exact flat_byte hr y h
    · rcases List.mem_cons.1 h with rfl | h
      · omega
      · exact hb y h
  unfold script_Get.f
  rw [if_pos ⟨hbytes, by rw [List.length_append, List.length_cons]; omega⟩]
  obtain ⟨j, rfl⟩ : ∃ j, K = (j + 1) + l.length := ⟨K - 1 - l.length, by omega⟩
  rw [getL_all _ _ l (j + 1) [] hr hf, getL_cons, show c % 128 = c by omega, letters_no (k := c) (by omega)]
  have hw : right31 (mk31 c five0) = false := by
    cases h : right31 (mk31 c five0) with
    | false => rfl
    | true =>
      obtain ⟨_, h8, _⟩ := right31_facts h
      have : (mk31 c five0).f0 = c % 128 := rfl
      omega
  show (if right31 (mk31 c five0) = true then _ else _) = _
  rw [hw, if_neg (by decide), List.nil_append, List.length_append, List.length_cons]
  congr 2
  congr 1
  omega
end Go.Proofs.Ytmifcdmkobammaa.Q
