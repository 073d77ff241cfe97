/- Layer 18: RootsRow, walked. -/
import Derived.Test.YtbmpclgibimopaaHead
namespace Go.Proofs.Ytbmpclgibimopaa.Walk
open Go.RowKit Go.Proofs.Ytbmpclgibimopaa.Blks Go.Proofs.YtbmpclgibimopaaW.PrintWords
theorem int_at {w W : World} {A : Option Addr} {l : List Int} (hC : Kd.C (Kd.int .i64) w A l.length l) (hb : RowKit.Below w.heap.size w W) (i : Nat) (hi : i < l.length) : ∃ ad, A = some ad ∧ W.cell? (ad.add i) = some (.int .i64 l[i]) := by
  obtain ⟨ad, e, hc⟩ := Kd.at_int (Kd.C_below hC hb) (i : Int) (by omega) (by omega)
  refine ⟨ad, e, ?_⟩
  rw [Int.toNat_natCast] at hc
  rw [hc]
  congr 2
  unfold rd
  rw [Int.toNat_natCast, List.getD_eq_getElem?_getD, List.getElem?_eq_getElem hi]; rfl
theorem new_one (w : World) : Calls Try.prog 10 #[.int .i64 1] w fun e w' => e = .returned (.pointer (some ⟨w.heap.size, 0, none⟩)) ∧ St w' w.heap.size 1 [] 0 ∧ RowKit.Below w.heap.size w w' := new_St 1 (by decide) (by decide) w
theorem use_one_new (x : Int) : useL 1 [] x = ([(x, 0)], 0, false) := rfl
theorem use_one_same (x : Int) : useL 1 [(x, 0)] x = ([(x, 0)], 0, false) := by
  unfold useL; simp
theorem use_one_other (p x : Int) (h : p ≠ x) : useL 1 [(p, 0)] x = ([(x, 0)], 0, true) := by
  unfold useL; simp [h]
set_option maxHeartbeats 2000000 in
set_option maxRecDepth 100000 in
theorem row_any (A : Option Addr) (c : Nat) (l : List Int) (w : World) (hC : Kd.C (Kd.int .i64) w A l.length l) :
    Calls Try.prog 8 #[.slice A l.length c] w fun e w' => e = .returned (.bool true) ∧ RowKit.Below w.heap.size w w' := by
  have HC := Aside0.mk hC
  obtain ⟨n, hn⟩ : ∃ n, l.length = n := ⟨_, rfl⟩
  have HN := Aside0.mk hn
  rw [hn]
  clear hn hC
  go_enter Try.func8, Try.ntmps8
  go_wp2_with fail
  with_reducible refine (head_any w).mono ?_
  rintro e w1 ⟨rfl, hb⟩
  have HB1 := Aside0.mk hb
  clear hb
  go_wp2_with fail
  with_reducible refine (new_one w1).mono ?_
  rintro e w2 ⟨rfl, hS, hb⟩
  have HS := Aside0.mk hS
  have HB2 := Aside0.mk (below_step HB1.out hb)
  have hge : w.heap.size ≤ w1.heap.size := HB1.out.size
  obtain ⟨g, hg⟩ : ∃ g, w1.heap.size = g := ⟨_, rfl⟩
  rw [hg] at HS hge
  rw [hg]
  have HG := Aside0.mk hge
  clear hS hb hge hg HB1
  by_cases hbig : 600 < n
  · have h1 : decide ((600 : Int) < (n : Int)) = true := decide_eq_true (by omega)
    have h2 : decide (600 < n) = true := decide_eq_true hbig
    go_wp2
    go_ret
    exact ⟨rfl, HB2.out⟩
  · have h1 : decide ((600 : Int) < (n : Int)) = false := decide_eq_false (by omega)
    have h2 : decide (600 < n) = false := decide_eq_false hbig
    have hsmall : n ≤ 600 := by omega
    clear hbig
    go_wp2
    go_loopg [5, 6, 7] n (fun gg v5 _ _ wr => ∃ (i : Nat) (L : Lru), v5 = .int .i64 i ∧ i ≤ n ∧ n - i ≤ gg ∧ Aside0 (St wr g 1 L i) ∧ Aside0 (RowKit.Below w.heap.size w wr) ∧ Aside0 (∀ j, i = j + 1 → ∃ h : j < l.length, L = [(l[j], 0)]) ∧ Aside0 (i = 0 → L = []))
    case atStart => exact ⟨0, [], rfl, by omega, by omega, HS, HB2, ⟨fun j h => by omega⟩, ⟨fun _ => rfl⟩⟩
    case round =>
      clear HS HB2
      obtain ⟨i, L, rfl, hin, hgg, HS, HB, HL, HL0⟩ := hrel
      have hl2 : i < n ∨ i = n := by omega
      rcases hl2 with hl2 | hl2
      · have hil : i < l.length := by have := HN.out; omega
        obtain ⟨ad, rfl, hx⟩ := int_at HC.out HB.out i hil
        have hd1 : decide ((i : Int) < (n : Int)) = true := decide_eq_true (by omega)
        cases i with
        | zero =>
          have hL0 := HL0.out rfl
          subst hL0
          have HLx := Aside0.mk (show ∀ j, 1 = j + 1 → ∃ h : j < l.length, [(l[0], 0)] = [(l[j], 0)] from fun j hj => by obtain rfl : j = 0 := (by omega); exact ⟨hil, rfl⟩)
          generalize l[0] = x at hx HLx
          have hx0 : wr.cell? ad = some (.int .i64 x) := hx
          have hlt2 : ad.block < wr.heap.size := World.block_lt_of_cell? wr ad hx0
          have hu := use_lit HS.out (by decide) x 0 [(x, 0)] 0 false (use_one_new x) rfl
          clear HL HL0
          go_wp2_with fail
          with_reducible refine hu.mono ?_
          rintro e w3 ⟨rfl, hS, ho⟩
          have HS3 := Aside0.mk hS
          have HB3 := Aside0.mk (Only.below HB.out HB.out.size HG.out ho)
          clear hS ho hu HS
          go_wp2
          go_quiet (fail)
          go_wp2
          go_roundg (n - 1)
          case measure => omega
          case rel => exact ⟨1, [(x, 0)], by go_num, by omega, by omega, ⟨HS3.out.drewN _⟩, ⟨below_drewN HB3.out _⟩, HLx, ⟨fun h => by omega⟩⟩
        | succ j =>
          obtain ⟨hjl, hL⟩ := HL.out j rfl
          subst hL
          have HLx := Aside0.mk (show ∀ k, j + 1 + 1 = k + 1 → ∃ h : k < l.length, [(l[j + 1], 0)] = [(l[k], 0)] from fun k hk => by obtain rfl : k = j + 1 := (by omega); exact ⟨hil, rfl⟩)
          clear HL HL0
          obtain ⟨x, hxe⟩ : ∃ x, l[j + 1] = x := ⟨_, rfl⟩
          obtain ⟨p, hpe⟩ : ∃ p, l[j] = p := ⟨_, rfl⟩
          change wr.cell? ⟨ad.block, ad.off + (j + 1), none⟩ = _ at hx
          have HXE := Aside0.mk hxe
          have HPE := Aside0.mk hpe
          rw [hxe] at hx HLx
          rw [hpe] at HS
          clear hxe hpe
          have hj1 : ((j + 1 : Nat) : Int) - 1 = j := by omega
          have hd0 : decide ((0 : Int) < ((j + 1 : Nat) : Int)) = true := decide_eq_true (by omega)
          by_cases hpx : p = x
          · subst hpx
            have hu := use_lit HS.out (by omega) p 0 [(p, 0)] 0 false (use_one_same p) rfl
            clear HS
            go_wp2_with fail
            with_reducible refine hu.mono ?_
            rintro e w3 ⟨rfl, hS, ho⟩
            have HS3 := Aside0.mk hS
            have HB3 := Aside0.mk (Only.below HB.out HB.out.size HG.out ho)
            clear hS ho hu hx
            obtain ⟨ad4, e4, hy⟩ := int_at HC.out HB3.out (j + 1) hil
            cases e4
            obtain ⟨ad5, e5, hz⟩ := int_at HC.out HB3.out j hjl
            cases e5
            rw [HXE.out] at hy
            change w3.cell? ⟨ad.block, ad.off + (j + 1), none⟩ = _ at hy
            rw [HPE.out] at hz
            have hpx2 : (p == p) = true := by simp
            go_wp2
            go_quiet (fail)
            go_wp2
            go_roundg (n - (j + 1 + 1))
            case measure => omega
            case rel => exact ⟨j + 1 + 1, [(p, 0)], by go_num, by omega, by omega, ⟨HS3.out.drewN _⟩, ⟨below_drewN HB3.out _⟩, HLx, ⟨fun h => by omega⟩⟩
          · have HPX := Aside0.mk hpx
            clear hpx
            have hu := use_lit HS.out (by omega) x 0 [(x, 0)] 0 true (use_one_other p x HPX.out) rfl
            clear HS
            go_wp2_with fail
            with_reducible refine hu.mono ?_
            rintro e w3 ⟨rfl, hS, ho⟩
            have HS3 := Aside0.mk hS
            have HB3 := Aside0.mk (Only.below HB.out HB.out.size HG.out ho)
            clear hS ho hu hx
            obtain ⟨ad4, e4, hy⟩ := int_at HC.out HB3.out (j + 1) hil
            cases e4
            obtain ⟨ad5, e5, hz⟩ := int_at HC.out HB3.out j hjl
            cases e5
            rw [HXE.out] at hy
            change w3.cell? ⟨ad.block, ad.off + (j + 1), none⟩ = _ at hy
            rw [HPE.out] at hz
            have hpx2 : (x == p) = false := beq_eq_false_iff_ne.2 (Ne.symm HPX.out)
            have hpx3 : (x != p) = true := bne_iff_ne.2 (Ne.symm HPX.out)
            have hpx4 : decide (x = p) = false := decide_eq_false (Ne.symm HPX.out)
            go_wp2
            go_quiet (fail)
            go_wp2
            go_roundg (n - (j + 1 + 1))
            case measure => omega
            case rel => exact ⟨j + 1 + 1, [(x, 0)], by go_num, by omega, by omega, ⟨HS3.out.drewN _⟩, ⟨below_drewN HB3.out _⟩, HLx, ⟨fun h => by omega⟩⟩
      · subst hl2
        go_wp2
        go_ret
        exact ⟨rfl, HB.out⟩
end Go.Proofs.Ytbmpclgibimopaa.Walk
