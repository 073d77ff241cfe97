/- Layer 18: the live question answers true. -/
import Derived.Test.YtbmpclgibimopaaSt
import Derived.Test.YtbmpclgibimopaaSame2
namespace Go.Proofs.Ytbmpclgibimopaa.Walk
open Go.RowKit Go.Proofs.Ytbmpclgibimopaa.Blks Go.Proofs.YtbmpclgibimopaaW.PrintWords
theorem two_ints {w : World} {g : Nat} {t : TypeId} {x y : Int} (h : Blk w g t #[.int .i64 x, .int .i64 y]) : Kd.C (Kd.int .i64) w (some ⟨g, 0, none⟩) 2 [x, y] := by
  refine Kd.C_of_reads (enc := Value.int .i64) (d := (0 : Int)) (h1 := fun _ => rfl) ⟨rfl, by first | omega | decide, fun _ => ⟨⟨g, 0, none⟩, rfl, fun j hj => ?_⟩⟩
  match j, hj with
  | 0, _ => exact h.cell 0
  | 1, _ => exact h.cell 1
  | n + 2, hj => exact absurd (show n + 2 < 2 from hj) (by omega)
theorem use_lit {w : World} {g N c : Nat} {L : Lru} (h : St w g N L c) (hc : c < 100000000) (x z : Int) (L' : Lru) (i : Nat) (b : Bool) (hu : useL N L x = (L', i, b)) (hz : (i : Int) = z) :
    Calls Try.prog 12 #[.pointer (some ⟨g, 0, none⟩), .int .i64 x] w fun e w' => e = .returned (.tuple #[.int .i64 z, .bool b]) ∧ St w' g N L' (c + 1) ∧ Only w w' g := by
  have := use_St x h hc
  rw [hu] at this
  rw [← hz]
  exact this
theorem space_lit {w : World} {g N c : Nat} {L : Lru} (h : St w g N L c) (x z : Int) (b : Bool) (hu : spaceL L x = (z, b)) :
    Calls Try.prog 14 #[.pointer (some ⟨g, 0, none⟩), .int .i64 x] w fun e w' => e = .returned (.tuple #[.int .i64 z, .bool b]) ∧ w = w' := by
  have := space_St x h
  rw [hu] at this
  exact this
theorem new_two (w : World) : Calls Try.prog 10 #[.int .i64 2] w fun e w' => e = .returned (.pointer (some ⟨w.heap.size, 0, none⟩)) ∧ St w' w.heap.size 2 [] 0 ∧ RowKit.Below w.heap.size w w' := new_St 2 (by decide) (by decide) w
set_option maxHeartbeats 1000000 in
set_option maxRecDepth 100000 in
theorem head_any (w : World) : Calls Try.prog 9 #[] w fun e w' => e = .returned (.bool true) ∧ RowKit.Below w.heap.size w w' := by
  go_enter Try.func9, Try.ntmps9
  go_wp2_with fail
  with_reducible refine (new_two w).mono ?_
  rintro e w1 ⟨rfl, hS, hb⟩
  have HB1 := Aside0.mk hb
  have HS1 := Aside0.mk hS
  clear hS hb
  obtain ⟨g, hg⟩ : ∃ g, w.heap.size = g := ⟨_, rfl⟩
  rw [hg] at HS1
  rw [hg]
  have HG := Aside0.mk (Nat.le_of_eq hg)
  clear hg
  have hn0 := fun W => new_no 0 (by decide) W
  have hn9 := fun W => new_no 9 (by decide) W
  go_wp2_with (first | (go_at_call 10; with_reducible refine (hn0 _).mono ?_; rintro e w2 ⟨rfl, rfl⟩) | (go_at_call 10; with_reducible refine (hn9 _).mono ?_; rintro e w2 ⟨rfl, rfl⟩))
  have hu := use_lit HS1.out (by decide) 5 0 [(5, 0)] 0 false rfl rfl
  clear HS1
  with_reducible refine hu.mono ?_
  rintro e w2 ⟨rfl, hS, ho⟩
  have HS2 := Aside0.mk hS
  have HB2 := Aside0.mk (Only.below HB1.out HB1.out.size HG.out ho)
  clear hS ho hu HB1 hn0 hn9
  go_wp2_with fail
  have hu := use_lit HS2.out (by decide) 6 1 [(5, 0), (6, 1)] 1 false rfl rfl
  clear HS2
  with_reducible refine hu.mono ?_
  rintro e w3 ⟨rfl, hS, ho⟩
  have HS3 := Aside0.mk hS
  have HB3 := Aside0.mk (Only.below HB2.out HB2.out.size HG.out ho)
  clear hS ho hu HB2
  go_wp2_with fail
  have hu := use_lit HS3.out (by decide) 5 0 [(6, 1), (5, 0)] 0 false rfl rfl
  clear HS3
  with_reducible refine hu.mono ?_
  rintro e w4 ⟨rfl, hS, ho⟩
  have HS4 := Aside0.mk hS
  have HB4 := Aside0.mk (Only.below HB3.out HB3.out.size HG.out ho)
  clear hS ho hu HB3
  go_wp2_with fail
  have hu := use_lit HS4.out (by decide) 7 1 [(5, 0), (7, 1)] 1 true rfl rfl
  clear HS4
  with_reducible refine hu.mono ?_
  rintro e w5 ⟨rfl, hS, ho⟩
  have HS5 := Aside0.mk hS
  have HB5 := Aside0.mk (Only.below HB4.out HB4.out.size HG.out ho)
  clear hS ho hu HB4
  have hs1 := space_lit HS5.out 7 1 true rfl
  have hs2 := space_lit HS5.out 6 0 false rfl
  go_wp2_with fail
  with_reducible refine hs1.mono ?_
  rintro e w6 ⟨rfl, rfl⟩
  go_wp2_with fail
  with_reducible refine hs2.mono ?_
  rintro e w7 ⟨rfl, rfl⟩
  clear hs1 hs2
  go_wp2_with fail
  with_reducible refine (list_St HS5.out (by decide)).mono ?_
  rintro e w8 ⟨v, rfl, hR, hb⟩
  have hR2 : Kd.R (Kd.int .i64) 3 w8 w5.heap.size (fun _ => True) v [5, 7] := hR
  obtain ⟨A, c, rfl⟩ := Kd.R_slice hR2
  have HC := Aside0.mk (Kd.R_reads' hR2).2.2
  have HL := Aside0.mk (Kd.R_reads' hR2).2.1
  have HB8 := Aside0.mk (below_step HB5.out hb)
  clear hR hR2 hb HS5 HB5
  go_wp2_with fail
  have BK := Blk.new w8 3 #[.int .i64 5, .int .i64 7]
  have hsame : Calls Try.prog 16 #[.slice A 2 c, .slice (some ⟨w8.heap.size, 0, none⟩) 2 2] (w8.alloc (.cells #[.int .i64 5, .int .i64 7] 3)) (fun e w' => e = .returned (.bool true) ∧ ∃ n, w' = (w8.alloc (.cells #[.int .i64 5, .int .i64 7] 3)).drewN n) := same_any A (some ⟨w8.heap.size, 0, none⟩) c 2 [5, 7] [5, 7] _ (Kd.C_alloc HC.out (.cells #[.int .i64 5, .int .i64 7] 3)) HL.out (two_ints BK) (by decide) (by decide)
  with_reducible refine hsame.mono ?_
  rintro e w9 ⟨rfl, n, rfl⟩
  clear hsame
  go_wp2_with fail
  go_ret
  exact ⟨rfl, below_drewN (HB8.out.alloc HB8.out.size _) _⟩
end Go.Proofs.Ytbmpclgibimopaa.Walk
