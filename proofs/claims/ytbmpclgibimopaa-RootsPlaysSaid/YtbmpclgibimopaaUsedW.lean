/- Layer 18: RootsUsed, walked. -/
import Derived.Test.YtbmpclgibimopaaRowW
namespace Go.Proofs.Ytbmpclgibimopaa.Walk
open Go.RowKit Go.Proofs.Ytbmpclgibimopaa.Blks Go.Proofs.YtbmpclgibimopaaW.PrintWords
/-- A root that is used stands last. -/
theorem use_last (N : Nat) (L : Lru) (x : Int) (hN : 1 ≤ N) : ∃ K : Lru, (useL N L x).1 = K ++ [(x, (useL N L x).2.1)] ∧ K.length ≤ L.length ∧ ∀ p ∈ K, p.1 ≠ x := by
  unfold useL
  cases hf : L.find? (fun p => p.1 == x) with
  | some p => exact ⟨_, rfl, List.length_filter_le _ _, fun q hq => by have := (List.mem_filter.1 hq).2; simpa using this⟩
  | none =>
    have hno : ∀ p ∈ L, p.1 ≠ x := fun p hp => by have := List.find?_eq_none.1 hf p hp; simpa using this
    dsimp only
    by_cases hl : L.length < N
    · rw [if_pos hl]; exact ⟨L, rfl, Nat.le_refl _, hno⟩
    · rw [if_neg hl]
      match L, hl, hno with
      | [], hl, _ => simp at hl; omega
      | p :: L', _, hno => exact ⟨L', rfl, by simp, fun q hq => hno q (List.mem_cons_of_mem _ hq)⟩
theorem find_last (K : Lru) (x : Int) (i : Nat) (h : ∀ p ∈ K, p.1 ≠ x) : (K ++ [(x, i)]).find? (fun p => p.1 == x) = some (x, i) := by
  rw [List.find?_append, List.find?_eq_none.2 (fun p hp => by simpa using h p hp)]
  simp
theorem space_last (K : Lru) (x : Int) (i : Nat) (h : ∀ p ∈ K, p.1 ≠ x) : spaceL (K ++ [(x, i)]) x = ((i : Int), true) := by
  unfold spaceL; rw [find_last K x i h]
theorem use_again (N : Nat) (K : Lru) (x : Int) (i : Nat) (h : ∀ p ∈ K, p.1 ≠ x) : useL N (K ++ [(x, i)]) x = (K ++ [(x, i)], i, false) := by
  unfold useL
  rw [find_last K x i h]
  dsimp only
  rw [List.filter_append, List.filter_eq_self.2 (fun p hp => by simpa using h p hp), List.filter_cons, if_neg (by simp)]
  simp
set_option maxHeartbeats 2000000 in
set_option maxRecDepth 100000 in
theorem used_any (A : Option Addr) (c : Nat) (a : Int) (l : List Int) (x : Int) (w : World) (ha : (Lit.int .u8 a).wf = true) (hC : Kd.C (Kd.int .i64) w A l.length l) :
    Calls Try.prog 7 #[.int .u8 a, .slice A l.length c, .int .i64 x] w fun e w' => e = .returned (.bool true) ∧ RowKit.Below w.heap.size w w' := by
  have HC := Aside0.mk hC
  obtain ⟨n, hn⟩ : ∃ n, l.length = n := ⟨_, rfl⟩
  have HN := Aside0.mk hn
  rw [hn]
  have ha2 : 0 ≤ a ∧ a < 256 := by simp [Lit.wf, IntKind.min, IntKind.max, IntKind.bits, IntKind.signed] at ha; omega
  obtain ⟨ha0, ha1⟩ := ha2
  obtain ⟨N, hN⟩ : ∃ N : Nat, (N : Int) = 1 + a % 8 := ⟨(1 + a % 8).toNat, by omega⟩
  have hnew : ∀ w : World, Calls Try.prog 10 #[.int .i64 (1 + a % 8)] w fun e w' => e = .returned (.pointer (some ⟨w.heap.size, 0, none⟩)) ∧ St w' w.heap.size N [] 0 ∧ RowKit.Below w.heap.size w w' := fun w => by rw [← hN]; exact new_St N (by omega) (by omega) w
  have HM := Aside0.mk hN
  have HM1 := Aside0.mk (show 1 ≤ N by omega)
  clear hn hC ha hN
  go_enter Try.func7, Try.ntmps7
  go_wp2_with fail
  with_reducible refine (head_any w).mono ?_
  rintro e w1 ⟨rfl, hb⟩
  have HB1 := Aside0.mk hb
  clear hb
  go_wp2_with fail
  with_reducible refine (hnew w1).mono ?_
  rintro e w2 ⟨rfl, hS, hb⟩
  have HS := Aside0.mk hS
  have HB2 := Aside0.mk (below_step HB1.out hb)
  have hge : w.heap.size ≤ w1.heap.size := HB1.out.size
  obtain ⟨g, hg⟩ : ∃ g, w1.heap.size = g := ⟨_, rfl⟩
  rw [hg] at HS hge
  rw [hg]
  have HG := Aside0.mk hge
  clear hS hb hge hg HB1 hnew
  by_cases hbig : 600 < n
  · have h1 : decide ((600 : Int) < (n : Int)) = true := decide_eq_true (by omega)
    have h2 : decide (600 < n) = true := decide_eq_true hbig
    go_wp2
    go_ret
    exact ⟨rfl, HB2.out⟩
  · have h1 : decide ((600 : Int) < (n : Int)) = false := decide_eq_false (by omega)
    have h2 : decide (600 < n) = false := decide_eq_false hbig
    have hsmall : n ≤ 600 := by omega
    clear hbig
    go_wp2
    go_loopg [10] n (fun gg v10 wr => ∃ (i : Nat) (L : Lru), v10 = .int .i64 i ∧ i ≤ n ∧ n - i ≤ gg ∧ Aside0 (St wr g N L i) ∧ Aside0 (RowKit.Below w.heap.size w wr))
    case atStart => exact ⟨0, [], rfl, by omega, by omega, HS, HB2⟩
    case round =>
      clear HS HB2
      obtain ⟨i, L, rfl, hin, hgg, HS, HB⟩ := hrel
      have hl2 : i < n ∨ i = n := by omega
      rcases hl2 with hl2 | hl2
      · obtain ⟨ad, rfl, hx⟩ := int_at HC.out HB.out i (by have := HN.out; omega)
        have hd1 : decide ((i : Int) < (n : Int)) = true := decide_eq_true (by omega)
        generalize l[i]'(by have := HN.out; omega) = y at hx
        have hu := use_St y HS.out (by omega)
        go_wp2_with fail
        with_reducible refine hu.mono ?_
        rintro e w3 ⟨rfl, hS, ho⟩
        have HS3 := Aside0.mk hS
        have HB3 := Aside0.mk (Only.below HB.out HB.out.size HG.out ho)
        clear hS ho hu
        go_wp2
        go_roundg (n - (i + 1))
        case measure => omega
        case rel => exact ⟨i + 1, _, by go_num, by omega, Nat.le_refl _, HS3, HB3⟩
      · subst hl2
        obtain ⟨K, hK, hKl, hKx⟩ := use_last N L x HM1.out
        obtain ⟨s, hs⟩ : ∃ s, (useL N L x).2.1 = s := ⟨_, rfl⟩
        obtain ⟨b, hb⟩ : ∃ b, (useL N L x).2.2 = b := ⟨_, rfl⟩
        rw [hs] at hK
        have hu := use_lit HS.out (by omega) x (s : Int) (K ++ [(x, s)]) s b (by rw [← hK, ← hs, ← hb]) rfl
        have HKX := Aside0.mk hKx
        clear hK hKl hKx hs hb
        go_wp2_with fail
        with_reducible refine hu.mono ?_
        rintro e w3 ⟨rfl, hS, ho⟩
        have HS3 := Aside0.mk hS
        have HB3 := Aside0.mk (Only.below HB.out HB.out.size HG.out ho)
        have hsp := space_lit HS3.out x (s : Int) true (space_last K x s HKX.out)
        have hu2 := use_lit HS3.out (by omega) x (s : Int) (K ++ [(x, s)]) s false (use_again N K x s HKX.out) rfl
        clear hS ho hu HS HB
        go_wp2_with fail
        with_reducible refine hsp.mono ?_
        rintro e w4 ⟨rfl, rfl⟩
        clear hsp
        go_wp2_with fail
        with_reducible refine hu2.mono ?_
        rintro e w4 ⟨rfl, hS, ho⟩
        have HS4 := Aside0.mk hS
        have HB4 := Aside0.mk (Only.below HB3.out HB3.out.size HG.out ho)
        have hle := hS.le
        rw [List.length_append, List.length_singleton] at hle
        clear hS ho hu2 HS3 HB3
        go_wp2_with fail
        with_reducible refine (list_St HS4.out (by omega)).mono ?_
        rintro e w5 ⟨v, rfl, hR, hb5⟩
        rw [List.map_append, List.map_singleton] at hR
        obtain ⟨xs, hxs⟩ : ∃ xs, xs = K.map Prod.fst := ⟨_, rfl⟩
        have hxl : xs.length = K.length := by rw [hxs, List.length_map]
        rw [← hxs] at hR
        obtain ⟨ad, c5, rfl⟩ := Kd.R_slice1 hR (by simp)
        obtain ⟨ad2, e2, hy⟩ := Kd.at_int (Kd.R_reads' hR).2.2 (xs.length : Int) (by omega) (by rw [List.length_append, List.length_singleton]; omega)
        cases e2
        rw [Int.toNat_natCast, show rd (xs ++ [((x, s) : Int × Nat).1]) (xs.length : Int) = x by unfold rd; rw [Int.toNat_natCast, List.getD_eq_getElem?_getD, List.getElem?_append_right (Nat.le_refl _), Nat.sub_self]; rfl] at hy
        have HB5 := Aside0.mk (below_step HB4.out hb5)
        have HK := Aside0.mk (show xs.length + 1 ≤ N by omega)
        rw [List.length_append, List.length_singleton]
        clear hR hb5 hxs hxl HB4 HS4 hle
        have q1 : decide ((0 : Int) < ((xs.length : Nat) : Int) + 1) = true := decide_eq_true (by omega)
        have q2 : decide (((xs.length : Nat) : Int) + 1 ≤ 1 + a % 8) = true := decide_eq_true (by rw [← HM.out]; have := HK.out; omega)
        have hb8 : xs.length ≤ 8 := by have := HK.out; have := HM.out; omega
        go_wp2
        go_ret
        exact ⟨rfl, HB5.out⟩
end Go.Proofs.Ytbmpclgibimopaa.Walk
