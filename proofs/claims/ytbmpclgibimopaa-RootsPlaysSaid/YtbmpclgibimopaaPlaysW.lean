/- Layer 18: RootsPlays, walked. -/
import Derived.Test.YtbmpclgibimopaaRefU
import Derived.Test.YtbmpclgibimopaaLatelyW
namespace Go.Proofs.Ytbmpclgibimopaa.Walk
open Go.RowKit Go.Proofs.Ytbmpclgibimopaa.Blks Go.Proofs.YtbmpclgibimopaaW.PrintWords
theorem plays_no (A : Option Addr) (c n : Nat) (m : Int) (z : Int) (w : World) (hm : m < 1 ∨ 8 < m) :
    Calls Try.prog 3 #[.int .i64 m, .slice A n c, .int .i64 z] w fun e w' => e = .returned (.bool true) ∧ RowKit.Below w.heap.size w w' := by
  have HM := Aside0.mk hm
  clear hm
  go_enter Try.func3, Try.ntmps3
  go_wp2_with fail
  with_reducible refine (head_any w).mono ?_
  rintro e w1 ⟨rfl, hb⟩
  have HB1 := Aside0.mk hb
  clear hb
  go_wp2_with fail
  with_reducible refine (new_no m HM.out w1).mono ?_
  rintro e w2 ⟨rfl, rfl⟩
  go_wp2_with fail
  with_reducible refine (new_ref_no m HM.out w1).mono ?_
  rintro e w2 ⟨rfl, rfl⟩
  go_wp2
  go_ret
  exact ⟨rfl, HB1.out⟩
set_option maxHeartbeats 8000000 in
set_option maxRecDepth 100000 in
theorem plays_yes (A : Option Addr) (c : Nat) (N : Nat) (l : List Int) (z : Int) (w : World) (h1 : 1 ≤ N) (h8 : N ≤ 8) (hC : Kd.C (Kd.int .i64) w A l.length l) :
    Calls Try.prog 3 #[.int .i64 (N : Int), .slice A l.length c, .int .i64 z] w fun e w' => e = .returned (.bool true) ∧ RowKit.Below w.heap.size w w' := by
  have HC := Aside0.mk hC
  obtain ⟨n, hn⟩ : ∃ n, l.length = n := ⟨_, rfl⟩
  have HN := Aside0.mk hn
  rw [hn]
  have HM1 := Aside0.mk (show 1 ≤ N ∧ N ≤ 8 from ⟨h1, h8⟩)
  clear hn hC h1 h8
  go_enter Try.func3, Try.ntmps3
  go_wp2_with fail
  with_reducible refine (head_any w).mono ?_
  rintro e w1 ⟨rfl, hb⟩
  have HB1 := Aside0.mk hb
  clear hb
  go_wp2_with fail
  with_reducible refine (new_St N HM1.out.1 HM1.out.2 w1).mono ?_
  rintro e w2 ⟨rfl, hS, hb⟩
  have HS := Aside0.mk hS
  have HB2 := Aside0.mk (below_step HB1.out hb)
  have hge : w.heap.size ≤ w1.heap.size := HB1.out.size
  obtain ⟨g, hg⟩ : ∃ g, w1.heap.size = g := ⟨_, rfl⟩
  rw [hg] at HS hge
  rw [hg]
  have HG := Aside0.mk hge
  clear hS hb hge hg HB1
  go_wp2_with fail
  with_reducible refine (new_ref N HM1.out.1 HM1.out.2 w2 w.heap.size HB2.out.size).mono ?_
  rintro e w3 ⟨rfl, hR, hb⟩
  have HS3 := Aside0.mk (HS.out.below hb)
  have HB3 := Aside0.mk (below_step HB2.out hb)
  have hge : w.heap.size ≤ w2.heap.size := HB2.out.size
  have hgr : g < w2.heap.size := HS.out.lt
  obtain ⟨r, hr⟩ : ∃ r, w2.heap.size = r := ⟨_, rfl⟩
  rw [hr] at hR hge hgr
  rw [hr]
  have HR := Aside0.mk hR
  have HG2 := Aside0.mk (show w.heap.size ≤ r ∧ g < r from ⟨hge, hgr⟩)
  clear hR hb hge hgr hr HS HB2
  by_cases hbig : 600 < n
  · have h1 : decide ((600 : Int) < (n : Int)) = true := decide_eq_true (by omega)
    have h2 : decide (600 < n) = true := decide_eq_true hbig
    go_wp2
    go_ret
    exact ⟨rfl, HB3.out⟩
  · have h1 : decide ((600 : Int) < (n : Int)) = false := decide_eq_false (by omega)
    have h2 : decide (600 < n) = false := decide_eq_false hbig
    have hsmall : n ≤ 600 := by omega
    clear hbig
    go_wp2
    go_loopg [10, 11, 12, 13, 14, 15, 16, 17, 18] n (fun gg v10 _ _ _ _ _ _ _ _ wr => ∃ (i : Nat) (L : Lru), v10 = .int .i64 i ∧ i ≤ n ∧ n - i ≤ gg ∧ Aside0 (St wr g N L i) ∧ Aside0 (Sr wr w.heap.size r N L) ∧ Aside0 (RowKit.Below w.heap.size w wr))
    case atStart => exact ⟨0, [], rfl, by omega, by omega, HS3, HR, HB3⟩
    case round =>
      clear HS3 HB3 HR
      obtain ⟨i, L, rfl, hin, hgg, HS, HR, HB⟩ := hrel
      have hl2 : i < n ∨ i = n := by omega
      rcases hl2 with hl2 | hl2
      · have hil : i < l.length := by have := HN.out; omega
        obtain ⟨ad, rfl, hx⟩ := int_at HC.out HB.out i hil
        have hd1 : decide ((i : Int) < (n : Int)) = true := decide_eq_true (by omega)
        obtain ⟨y, hy⟩ : ∃ y, l[i] = y := ⟨_, rfl⟩
        have HY := Aside0.mk hy
        rw [hy] at hx
        clear hy
        have hu := use_St y HS.out (by omega)
        have hru := fun (w : World) (b : Nat) (h : Sr w b r N L) => ruse_any y h HM1.out.1 (Nat.le_trans HS.out.le HM1.out.2) HS.out.le
        obtain ⟨L2, s2, b2, h2u⟩ : ∃ L2 s2 b2, useL N L y = (L2, s2, b2) := ⟨_, _, _, rfl⟩
        simp only [h2u] at hu hru
        go_wp2_with fail
        with_reducible refine hu.mono ?_
        rintro e w4 ⟨rfl, hS, ho⟩
        have HS4 := Aside0.mk hS
        have HB4 := Aside0.mk (Only.below HB.out HB.out.size HG.out ho)
        obtain ⟨cs, hcs⟩ := HS.out.blk
        have HR4 := Aside0.mk (HR.out.only hcs ho (by have := HG2.out.2; omega))
        obtain ⟨ad4, e4, hx4⟩ := int_at HC.out HB4.out i hil
        obtain rfl : ad = ad4 := by cases e4; rfl
        rw [HY.out] at hx4
        clear hS hu hcs hx ho HB HR e4 h2u
        have hru := hru w4 w.heap.size HR4.out
        clear HS
        go_wp2_with fail
        with_reducible refine hru.mono ?_
        rintro e w5 ⟨rfl, hR, ho⟩
        have hgb : ∃ cs : Array Value, w4.heap[r]? = some (.cells cs 45 (0, 0)) := by
          obtain ⟨_, _, _, _, _, h⟩ := HR4.out.open; exact ⟨_, h⟩
        have HR5 := Aside0.mk hR
        have HS5 := Aside0.mk (HS4.out.only ho (by have := HG2.out.2; omega))
        have HB5 := Aside0.mk (Only.below HB4.out HB4.out.size HG2.out.1 ho)
        have hsx := space_St z HS5.out
        have hrx := rspace_any z HR5.out (Nat.le_trans HS5.out.le HM1.out.2)
        have hlx := list_St HS5.out (by omega)
        obtain ⟨q1, q2, hq⟩ : ∃ q1 q2, spaceL L2 z = (q1, q2) := ⟨_, _, rfl⟩
        simp only [hq] at hsx hrx
        clear hR ho hgb HR4 HS4 HB4 hru hx4 hq
        go_wp2_with fail
        with_reducible refine hsx.mono ?_
        rintro e w6 ⟨rfl, rfl⟩
        clear hsx
        go_wp2_with fail
        with_reducible refine hrx.mono ?_
        rintro e w6 ⟨rfl, rfl⟩
        clear hrx
        go_wp2_with fail
        with_reducible refine hlx.mono ?_
        rintro e w6 ⟨v6, rfl, hR6, hb6⟩
        obtain ⟨A6, c6, rfl⟩ := Kd.R_slice hR6
        have HL6 := Aside0.mk hR6
        have HS6 := Aside0.mk (HS5.out.below hb6)
        have HR6 := Aside0.mk (HR5.out.below hb6)
        have HB6 := Aside0.mk (below_step HB5.out hb6)
        have hly := rlist_any HR6.out (Nat.le_trans HS6.out.le HM1.out.2)
        clear hR6 hb6 hlx HS5 HR5 HB5
        go_wp2_with fail
        with_reducible refine hly.mono ?_
        rintro e w7 ⟨v7, rfl, hR7, hb7⟩
        obtain ⟨A7, c7, rfl⟩ := Kd.R_slice hR7
        have hsame := same_any A6 A7 c6 c7 (L2.map Prod.fst) (L2.map Prod.fst) w7 (Kd.C_below (Kd.R_reads' HL6.out).2.2 hb7) (Kd.R_reads' HL6.out).2.1 (Kd.R_reads' hR7).2.2 (Kd.R_reads' hR7).2.1 (by rw [List.length_map]; exact Nat.le_trans HS6.out.le (by have := HM1.out.2; omega))
        rw [decide_eq_true rfl, List.length_map] at hsame
        have HS7 := Aside0.mk (HS6.out.below hb7)
        have HR7 := Aside0.mk (HR6.out.below hb7)
        have HB7 := Aside0.mk (below_step HB6.out hb7)
        clear hR7 hb7 hly HS6 HR6 HB6 HL6
        go_wp2_with fail
        with_reducible refine hsame.mono ?_
        rintro e w8 ⟨rfl, q, rfl⟩
        clear hsame
        go_wp2
        go_roundg (n - (i + 1))
        case measure => omega
        case rel => exact ⟨i + 1, _, by go_num, by omega, Nat.le_refl _, ⟨HS7.out.drewN q⟩, ⟨HR7.out.drewN q⟩, ⟨below_drewN HB7.out q⟩⟩
      · subst hl2
        have hd1 : decide ((i : Int) < (i : Int)) = false := decide_eq_false (by omega)
        go_wp2
        go_ret
        exact ⟨rfl, HB.out⟩
theorem plays_any (A : Option Addr) (c : Nat) (m : Int) (l : List Int) (z : Int) (w : World) (hC : Kd.C (Kd.int .i64) w A l.length l) :
    Calls Try.prog 3 #[.int .i64 m, .slice A l.length c, .int .i64 z] w fun e w' => e = .returned (.bool true) ∧ RowKit.Below w.heap.size w w' := by
  by_cases hm : m < 1 ∨ 8 < m
  · exact plays_no A c _ m z w hm
  · obtain ⟨N, rfl⟩ : ∃ N : Nat, m = (N : Int) := ⟨m.toNat, by omega⟩
    exact plays_yes A c N l z w (by omega) (by omega) hC
end Go.Proofs.Ytbmpclgibimopaa.Walk
