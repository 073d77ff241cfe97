/- Layer 18: package roots by its list: New, Use, Space, List, for the laws. -/
import Derived.Test.YtbmpclgibimopaaAbs
import Derived.Test.YtbmpclgibimopaaList3
namespace Go.Proofs.Ytbmpclgibimopaa.Walk
open Go.RowKit Go.Proofs.Ytbmpclgibimopaa.Blks Go.Proofs.YtbmpclgibimopaaW.PrintWords
/-- A Roots in a block: how many spaces, its list, how often it was used. -/
def St (w : World) (g : Nat) (N : Nat) (L : Lru) (c : Nat) : Prop := ∃ s : RS, Blk w g 42 s.cells ∧ Ab s L ∧ s.many = N ∧ s.clock = (c : Int)
section
variable {w w' : World} {g N c : Nat} {L : Lru}
theorem St.lt (h : St w g N L c) : g < w.heap.size := by obtain ⟨s, hB, _⟩ := h; exact hB.lt
theorem St.below (h : St w g N L c) (hb : RowKit.Below w.heap.size w w') : St w' g N L c := by
  obtain ⟨s, hB, h⟩ := h; exact ⟨s, hB.below_ hb, h⟩
theorem St.only {j : Nat} (h : St w g N L c) (ho : Only w w' j) (hne : g ≠ j) : St w' g N L c := by
  obtain ⟨s, hB, h⟩ := h; exact ⟨s, ho.blk hB hne, h⟩
theorem St.drewN (h : St w g N L c) (n : Nat) : St (w.drewN n) g N L c := h
theorem St.le (h : St w g N L c) : L.length ≤ N := by obtain ⟨s, _, hA, rfl, _⟩ := h; exact hA.le
theorem St.bd (h : St w g N L c) : 1 ≤ N ∧ N ≤ 8 := by obtain ⟨s, _, hA, rfl, _⟩ := h; exact ⟨hA.ok.m1, hA.ok.m8⟩
theorem St.nd (h : St w g N L c) : L.Pairwise (fun a b => a.1 ≠ b.1) := by obtain ⟨s, _, hA, rfl, _⟩ := h; exact hA.nd
theorem St.sp (h : St w g N L c) : (L.map Prod.snd).Perm (List.range L.length) := by obtain ⟨s, _, hA, rfl, _⟩ := h; exact hA.perm
theorem use_St (x : Int) (h : St w g N L c) (hc : c < 100000000) : Calls Try.prog 12 #[.pointer (some ⟨g, 0, none⟩), .int .i64 x] w fun e w' => e = .returned (.tuple #[.int .i64 ((useL N L x).2.1 : Nat), .bool (useL N L x).2.2]) ∧ St w' g N (useL N L x).1 (c + 1) ∧ Only w w' g := by
  obtain ⟨s, hB, hA, rfl, hcl⟩ := h
  obtain ⟨h1, h2, h3⟩ := hA.use x
  refine (use_any g s x w hB hA.ok ⟨hA.ck, by omega⟩).mono ?_
  rintro e w' ⟨rfl, hB', ho⟩
  rw [h1] at hB' ⊢
  exact ⟨rfl, ⟨_, hB', h2, rfl, by show s.clock + 1 = _; omega⟩, ho⟩
theorem space_St (x : Int) (h : St w g N L c) : Calls Try.prog 14 #[.pointer (some ⟨g, 0, none⟩), .int .i64 x] w fun e w' => e = .returned (.tuple #[.int .i64 (spaceL L x).1, .bool (spaceL L x).2]) ∧ w = w' := by
  obtain ⟨s, hB, hA, rfl, hcl⟩ := h
  rw [← hA.space x]
  exact space_any g s x w hB hA.ok
theorem list_St (h : St w g N L c) (hc : c < 100000000) : Calls Try.prog 17 #[.pointer (some ⟨g, 0, none⟩)] w fun e w' => ∃ v, e = .returned v ∧ Kd.R (Kd.int .i64) 3 w' w.heap.size (fun _ => True) v (L.map Prod.fst) ∧ RowKit.Below w.heap.size w w' := by
  obtain ⟨s, hB, hA, rfl, hcl⟩ := h
  refine (list_any g s L.length w hB hA.ok hA.le (fun i hi => ?_)).mono ?_
  · rcases Nat.lt_or_ge i L.length with a | a
    · obtain ⟨q, hq⟩ := hA.ex a
      have := hA.pos _ hq
      exact ⟨⟨by have := this.1; show 0 ≤ s.us i; exact Int.le_of_lt this, by have := this.2; have e : s.us i ≤ s.clock := this; omega⟩, by
        have h0 : 0 < s.us i := this.1
        rw [beq_eq_false_iff_ne.2 (by omega), decide_eq_false (by omega)]⟩
    · rw [hA.free i a hi]
      exact ⟨⟨by omega, by omega⟩, by rw [decide_eq_true a]; rfl⟩
  · rintro e w' ⟨v, l, rfl, hp, hl, hR, hb⟩
    rw [hA.told l hp hl] at hR
    exact ⟨v, rfl, hR, hb⟩
end
theorem new_cells (n : Nat) : (RS.new n).cells = #[.int .i64 (n : Nat), .int .i64 0, .int .i64 0, .int .i64 0, .int .i64 0, .int .i64 0, .int .i64 0, .int .i64 0, .int .i64 0, .int .i64 0, .int .i64 0, .int .i64 0, .int .i64 0, .int .i64 0, .int .i64 0, .int .i64 0, .int .i64 0, .int .i64 0] := rfl
set_option maxHeartbeats 1000000 in
theorem new_St (n : Nat) (h1 : 1 ≤ n) (h8 : n ≤ 8) (w : World) : Calls Try.prog 10 #[.int .i64 (n : Int)] w fun e w' => e = .returned (.pointer (some ⟨w.heap.size, 0, none⟩)) ∧ St w' w.heap.size n [] 0 ∧ RowKit.Below w.heap.size w w' := by
  have hA := Ab.new n h1 h8
  have hB := Blk.new w 42 (RS.new n).cells
  have HS : Aside0 (St (w.alloc (.cells (RS.new n).cells 42)) w.heap.size n [] 0 ∧ RowKit.Below w.heap.size w (w.alloc (.cells (RS.new n).cells 42))) := ⟨⟨_, hB, hA, rfl, rfl⟩, (RowKit.Below.refl _ _).alloc (Nat.le_refl _) _⟩
  rw [new_cells] at HS
  clear hA hB
  have a1 : (1 : Int) ≤ n := by omega
  have a2 : (n : Int) ≤ 8 := by omega
  go_enter Try.func10, Try.ntmps10
  go_wp2
  go_ret
  exact ⟨rfl, HS.out⟩
set_option maxHeartbeats 1000000 in
theorem new_no (n : Int) (h : n < 1 ∨ 8 < n) (w : World) : Calls Try.prog 10 #[.int .i64 n] w fun e w' => e = .returned (.pointer none) ∧ w = w' := by
  by_cases h1 : n < 1
  · have a1 : decide (n < 1) = true := decide_eq_true h1
    clear h
    go_enter Try.func10, Try.ntmps10
    go_wp2
    go_ret
    exact ⟨rfl, rfl⟩
  · have a1 : decide (n < 1) = false := decide_eq_false h1
    have a2 : decide (8 < n) = true := decide_eq_true (by omega)
    clear h h1
    go_enter Try.func10, Try.ntmps10
    go_wp2
    go_ret
    exact ⟨rfl, rfl⟩
end Go.Proofs.Ytbmpclgibimopaa.Walk
