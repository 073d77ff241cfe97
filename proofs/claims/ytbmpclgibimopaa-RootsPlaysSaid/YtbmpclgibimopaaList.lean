/- Layer 18: roots.Roots.List, walked: the roots of the used spaces, the one that was used least lately first. -/
import Derived.Test.YtbmpclgibimopaaDel2
import Derived.Test.YtbmpclgibimopaaWMore
import Derived.Deep.RegionWith
namespace Go.Proofs.Ytbmpclgibimopaa.Walk
open Go.RowKit Go.Lib Go.Shelf Go.Sort Go.Proofs.Ytbmpclgibimopaa.Blks Go.Proofs.YtbmpclgibimopaaW.PrintWords Go.Proofs.YtbmpclgibimopaaW.PrintLast Go.Proofs.YtbmpclgibimopaaW.PrintMore
theorem info3 : (Try.prog.info? 3).map (fun i => (i.zero, i.size, i.bytes)) = some (some (.int .i64 0), 1, 8) := by kernel_rfl
theorem info39 : (Try.prog.info? 39).map (fun i => (i.zero, i.size, i.bytes)) = some (some (.agg #[.int .i64 0, .int .i64 0]), 2, 16) := by kernel_rfl
theorem sp_list : ∀ (l : List (Int × Int)), (∀ x ∈ l, 0 ≤ x.2 ∧ x.2 < 4611686018427387904) → ∃ d : List Sp, d.map Sp.val = l := by
  intro l
  induction l with
  | nil => intro _; exact ⟨[], rfl⟩
  | cons x l ih =>
    intro h
    obtain ⟨d, hd⟩ := ih (fun y hy => h y (List.mem_cons_of_mem _ hy))
    exact ⟨⟨x, h x List.mem_cons_self⟩ :: d, by rw [List.map_cons, hd]⟩
theorem pairs_of (d : List Sp) : d.flatMap encS = pairs (d.map Sp.val) := by
  induction d with
  | nil => rfl
  | cons x d ih =>
    rw [List.flatMap_cons, ih]
    simp [pairs, encS]
theorem row_of_owns {w : World} {base n : Nat} {v : Value} {xs : List Value} (h : w.ownsRow base 39 2 v n xs) (hne : v ≠ .slice none 0 0) : ∃ g cap, v = .slice (some ⟨g, 0, none⟩) n cap ∧ base ≤ g ∧ n ≤ cap ∧ Row w g cap xs := by
  obtain ⟨hl, h⟩ := h
  rcases h with ⟨h, _⟩ | ⟨g, cap, cur, rfl, hb, hg, hn, hm, hs, ht⟩
  · exact absurd h hne
  · exact ⟨g, cap, rfl, hb, hn, cur, hg, hs, by omega, by rw [hl]; exact ht⟩
/-- slices.Clone of the spaces. -/
theorem clone_any (gx : Nat) (s : RS) (d : List Sp) (w : World) (hB : Blk w gx 42 s.cells) (hk : s.Ok) (hd : d.map Sp.val = s.sp.take s.many) :
    Calls Try.prog 20 #[.slice (some ⟨gx, 2, none⟩) s.many 8] w fun e w' => ∃ g cap, e = .returned (.slice (some ⟨g, 0, none⟩) s.many cap) ∧ w.heap.size ≤ g ∧ s.many ≤ cap ∧ Row w' g cap (d.flatMap encS) ∧ Below w.heap.size w w' := by
  obtain ⟨i0, hi, hz0, hz1, hz2⟩ := info_parts info39
  have hlen : d.length = s.many := by
    have := congrArg List.length hd
    rw [List.length_map, List.length_take, hk.len] at this
    have := hk.m8
    omega
  have h8 := hk.m8
  have hcon := AnyE.slices_Clone Try.cloneSp i0 (.agg #[.int .i64 0, .int .i64 0]) 2 16 hi hz0 hz1 hz2 rfl (by decide) Try.sizeOf39 gx 2 s.many 8 (d.flatMap encS) w (by rw [cellsS_len, hlen]) (by unfold maxLen; omega) (by omega) (by
    intro j u hj
    rw [pairs_of, hd] at hj
    rw [hB.cell]
    have hj2 : (pairs s.sp)[j]? = some u := by
      have e : pairs s.sp = pairs (s.sp.take s.many) ++ pairs (s.sp.drop s.many) := by
        unfold pairs
        rw [← List.flatMap_append, List.take_append_drop]
      rw [e, List.getElem?_append_left]
      · exact hj
      · exact (List.getElem?_eq_some_iff.1 hj).1
    show (RS.cells s)[2 + j]? = _
    rw [show 2 + j = j + 1 + 1 by omega]
    simpa [RS.cells] using hj2) (by
    intro u hu
    obtain ⟨x, _, hx⟩ := List.mem_flatMap.1 hu
    simp [encS] at hx
    rcases hx with rfl | rfl <;> rfl)
  change Calls Try.prog 20 _ _ _ at hcon
  refine hcon.mono ?_
  rintro e w' ⟨v', rfl, ho, hne, hb⟩
  obtain ⟨g, cap, rfl, hg, hn, hr⟩ := row_of_owns ho hne
  exact ⟨g, cap, rfl, hg, hn, hr, hb⟩
end Go.Proofs.Ytbmpclgibimopaa.Walk
