/- Layer 18: roots.Roots.List, walked: the roots of the used spaces, the one that was used least lately first. -/
import Derived.Test.YtbmpclgibimopaaList
namespace Go.Proofs.Ytbmpclgibimopaa.Walk
open Go.RowKit Go.Lib Go.Shelf Go.Sort Go.Proofs.Ytbmpclgibimopaa.Blks Go.Proofs.YtbmpclgibimopaaW.PrintWords Go.Proofs.YtbmpclgibimopaaW.PrintLast Go.Proofs.YtbmpclgibimopaaW.PrintMore
theorem only_grow {w w' : World} {g : Nat} (h : Only w w' g) (os : Array Obj) : Only w (grow w' os) g :=
  ⟨h.os, h.tape, h.output, by have := h.size; simp [grow]; omega, fun i hi hne => by
    show (w'.heap ++ os)[i]? = _
    rw [Array.getElem?_append_left (by have := h.size; omega)]
    exact h.block i hi hne⟩
/-- The cells of a sorted row. -/
def At (w : World) (g : Nat) (d : List Sp) : Prop := ∀ j (h : j < d.length), w.cell? ⟨g, j * 2, none⟩ = some (.int .i64 (d[j]).val.1) ∧ w.cell? ⟨g, j * 2 + 1, none⟩ = some (.int .i64 (d[j]).val.2)
theorem At.below {w w' : World} {g : Nat} {d : List Sp} (h : At w g d) (hg : g < w.heap.size) (hb : Below w.heap.size w w') : At w' g d := fun j hj => by
  have := h j hj
  rw [hb.cell (p := ⟨g, j * 2, none⟩) hg, hb.cell (p := ⟨g, j * 2 + 1, none⟩) hg]
  exact this
theorem flat_at (d : List Sp) (t : Nat) (h : t < d.length * 2) : (flatK encS 2 d.toArray)[t]! = (encS (d[t / 2]'(by omega)))[t % 2]! := by
  rw [get_flatK encS 2 d.toArray t (by simpa using h)]
  rw [getElem!_pos d.toArray (t / 2) (by simp; omega)]
  simp
theorem holds_of_row {w : World} {g cap : Nat} {d : List Sp} (h : Row w g cap (d.flatMap encS)) : HoldsK encS 2 w g 0 d.toArray := by
  intro t ht
  have ht' : t < d.length * 2 := by simpa using ht
  refine ⟨?_, by rw [Nat.zero_add]; exact h.frozen t⟩
  rw [Nat.zero_add, flat_at d t ht']
  have hr := row_at h (t / 2) (by omega)
  have hm : t % 2 = 0 ∨ t % 2 = 1 := by omega
  rcases hm with e | e
  · rw [e]
    have e2 : t / 2 * 2 = t := by omega
    have := hr.1
    rw [e2] at this
    exact this
  · rw [e]
    have e2 : t / 2 * 2 + 1 = t := by omega
    have := hr.2
    rw [e2] at this
    exact this
theorem at_of_holds {w : World} {g : Nat} {d : Array Sp} (h : HoldsK encS 2 w g 0 d) : At w g d.toList := by
  intro j hj
  have hj' : j < d.size := by simpa using hj
  have e : d.toList.toArray = d := by simp
  have f0 := flat_at d.toList (j * 2) (by simp; omega)
  have f1 := flat_at d.toList (j * 2 + 1) (by simp; omega)
  rw [e] at f0 f1
  have h0 := (h (j * 2) (by rw [size_flatK]; omega)).1
  have h1 := (h (j * 2 + 1) (by rw [size_flatK]; omega)).1
  rw [Nat.zero_add] at h0 h1
  rw [h0, h1, f0, f1]
  have e1 : j * 2 / 2 = j := by omega
  have e2 : (j * 2 + 1) / 2 = j := by omega
  have e3 : j * 2 % 2 = 0 := by omega
  have e4 : (j * 2 + 1) % 2 = 1 := by omega
  simp only [e1, e2, e3, e4]
  exact ⟨rfl, rfl⟩
theorem sort_any (g cap : Nat) (d : List Sp) (w : World) (h : Row w g cap (d.flatMap encS)) (h8 : d.length ≤ 8) :
    Calls Try.prog 23 #[.slice (some ⟨g, 0, none⟩) d.length cap, .func (.func 24) #[] #[]] w fun e w' => e = .returned (.tuple #[]) ∧ ∃ d' : List Sp, d'.Perm d ∧ d'.Pairwise (fun a b => ¬ b.val.2 < a.val.2) ∧ At w' g d' ∧ Only w w' g := by
  have eg : ∀ args w, (callFunc 24 args).run Try.prog w = .ok (.enter 24 args) w := enters_of Try.func24 (by kernel_rfl) rfl
  have hH := holds_of_row h
  have hcon := AnyQ.slices_SortFunc Try.sortSp 2 Try.isAgg39 Try.sizeOf39 encS (fun _ => rfl) (fun x v hv => by simp [encS] at hv; rcases hv with rfl | rfl <;> rfl) cfS swo 24 #[] g 0 cap d.toArray w eg (cmp_lays g 0 d.toArray.size w) hH h.lt (by simp; omega)
  change Calls Try.prog 23 _ _ _ at hcon
  rw [List.size_toArray] at hcon
  refine hcon.mono ?_
  rintro e w' ⟨rfl, d', n, os, hp, hs, rfl⟩
  obtain ⟨hsz, _, hperm⟩ := hp
  have hsz' : d'.size = d.length := by simpa using hsz
  have e1 : d'.extract 0 d.length = d' := by rw [← hsz']; simp
  have e2 : d.toArray.extract 0 d.length = d.toArray := by simp
  rw [e1, e2] at hperm
  refine ⟨rfl, d'.toList, hperm, ?_, at_of_holds (holdsK_sortWorldK_c encS 2 w g 0 d.toArray d' n os hH h.lt hsz), ?_⟩
  · rw [List.pairwise_iff_getElem]
    intro i j hi hj hij
    have hi' : i < d'.size := by simpa using hi
    have hj' : j < d'.size := by simpa using hj
    have := hs i j (Nat.zero_le _) hij (by omega)
    rw [getElem!_pos d' j hj', getElem!_pos d' i hi'] at this
    unfold ltOf cfS at this
    have := of_decide_eq_false this
    simp only [Array.getElem_toList]
    omega
  · have ho : Only w (putRowK encS 2 (Sort.ahead w n) g 0 d') g := by
      refine ⟨rfl, rfl, rfl, ?_, fun i hi hne => ?_⟩
      · rw [size_putRowK]; exact Nat.le_refl _
      · show ((Sort.ahead w n).heap.modify g _)[i]? = _
        rw [Array.getElem?_modify, if_neg (Ne.symm hne)]
        rfl
    exact only_grow ho os
end Go.Proofs.Ytbmpclgibimopaa.Walk
