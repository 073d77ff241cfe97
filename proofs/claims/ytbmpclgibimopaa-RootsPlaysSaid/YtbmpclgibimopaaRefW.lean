/- Layer 18: the document's answer by its list: New, Space and List, walked. -/
import Derived.Test.YtbmpclgibimopaaFewW
import Derived.Test.YtbmpclgibimopaaPRootsPlaysx0
namespace Go.Proofs.Ytbmpclgibimopaa.Walk
open Go.RowKit Go.Proofs.Ytbmpclgibimopaa.Blks Go.Proofs.YtbmpclgibimopaaW.PrintWords Go.Proofs.Ytbmpclgibimopaa.PRootsPlays
def toS (p : Int × Nat) : S48 := ⟨p.1, (p.2 : Int)⟩
theorem kr_only {α : Type} {d : Kd α} {e t : Nat} {w w' : World} {g base : Nat} {ok : Nat → Prop} {v : Value} {xs : List α} {cs : Array Value} (h : d.R e w base ok v xs) (hB : w.heap[g]? = some (.cells cs t (0, 0))) (ht : t ∉ e :: d.E) (ho : Only w w' g) : d.R e w' base ok v xs := by
  refine Kd.R_mono (Kd.R_move (Kd.R_bound h) (fun k hk => ?_)) (fun _ hk => hk.1)
  obtain ⟨_, _, hlt, q, hq, cells, hc⟩ := hk
  refine ho.block k hlt ?_
  rintro rfl
  rw [hB] at hc
  have e : q = t := by cases hc; rfl
  subst e
  exact absurd hq ht
/-- The document's Roots in a block. -/
def Sr (w : World) (base g : Nat) (N : Nat) (L : Lru) : Prop := base ≤ g ∧ ∃ v, w.heap[g]? = some (.cells #[.int .i64 (N : Int), v] 45 (0, 0)) ∧ Kd.R k48 48 w base (fun _ => True) v (L.map toS)
section
variable {w w' : World} {base g N : Nat} {L : Lru}
theorem Sr.lt (h : Sr w base g N L) : g < w.heap.size := by
  obtain ⟨_, v, hb, _⟩ := h
  rcases Nat.lt_or_ge g w.heap.size with a | a
  · exact a
  · rw [Array.getElem?_eq_none a] at hb; cases hb
theorem Sr.below (h : Sr w base g N L) (hb : RowKit.Below w.heap.size w w') : Sr w' base g N L := by
  have hlt := h.lt
  obtain ⟨hg, v, hv, hR⟩ := h
  exact ⟨hg, v, (hb.block g hlt).trans hv, Kd.R_below hR hb⟩
theorem Sr.only {j : Nat} {cs : Array Value} (h : Sr w base g N L) (hB : w.heap[j]? = some (.cells cs 42 (0, 0))) (ho : Only w w' j) (hne : g ≠ j) : Sr w' base g N L := by
  have hlt := h.lt
  obtain ⟨hg, v, hv, hR⟩ := h
  exact ⟨hg, v, (ho.block g hlt hne).trans hv, kr_only hR hB (by decide) ho⟩
theorem Sr.drewN (h : Sr w base g N L) (n : Nat) : Sr (w.drewN n) base g N L := by
  obtain ⟨hg, v, hv, hR⟩ := h
  exact ⟨hg, v, hv, Kd.R_drewN hR n⟩
theorem Sr.open (h : Sr w base g N L) : ∃ A c, w.cell? ⟨g, 0, none⟩ = some (.int .i64 (N : Int)) ∧ w.cell? ⟨g, 1, none⟩ = some (.slice A L.length c) ∧ Kd.R k48 48 w base (fun _ => True) (.slice A L.length c) (L.map toS) ∧ w.heap[g]? = some (.cells #[.int .i64 (N : Int), .slice A L.length c] 45 (0, 0)) := by
  obtain ⟨hg, v, hv, hR⟩ := h
  obtain ⟨A, c, rfl⟩ := Kd.R_slice hR
  rw [List.length_map] at hR hv
  have hB : Blk w g 45 #[.int .i64 (N : Int), .slice A L.length c] := hv
  exact ⟨A, c, hB.cell 0, hB.cell 1, hR, hv⟩
end
theorem rd_S (L : Lru) (i : Nat) (h : i < L.length) : rd_T48 (L.map toS) (i : Int) = toS L[i] := by
  unfold rd_T48
  rw [Int.toNat_natCast, List.getD_eq_getElem?_getD, List.getElem?_map, List.getElem?_eq_getElem h]; rfl
theorem s_at {w : World} {A : Option Addr} {c base : Nat} {L : Lru} (h : Kd.R k48 48 w base (fun _ => True) (.slice A L.length c) (L.map toS)) (i : Nat) (hi : i < L.length) : ∃ ad, A = some ad ∧ w.cell? (ad.add (i * 2)) = some (.int .i64 L[i].1) ∧ w.cell? ⟨(ad.add (i * 2)).block, (ad.add (i * 2)).off + 1, none⟩ = some (.int .i64 (L[i].2 : Int)) := by
  obtain ⟨ad, e, h0, h1⟩ := at_T48 (Kd.R_reads' h).2.2 (i : Int) (by omega) (by first | omega | (rw [List.length_map]; omega))
  rw [rd_S L i hi, Int.toNat_natCast] at h0 h1
  exact ⟨ad, e, h0, h1⟩
set_option maxHeartbeats 2000000 in
theorem rspace_any {w : World} {base g N : Nat} {L : Lru} (x : Int) (h : Sr w base g N L) (h8 : L.length ≤ 8) : Calls Try.prog 15 #[.pointer (some ⟨g, 0, none⟩), .int .i64 x] w fun e w' => e = .returned (.tuple #[.int .i64 (spaceL L x).1, .bool (spaceL L x).2]) ∧ w = w' := by
  obtain ⟨A, c, c0, c1, hR, _⟩ := h.open
  have HR := Aside0.mk hR
  obtain ⟨r, hr⟩ : ∃ r, spaceL L x = r := ⟨_, rfl⟩
  obtain ⟨r1, r2⟩ := r
  rw [hr]
  have H0 := Aside0.mk (show spaceL (L.drop 0) x = (r1, r2) from hr)
  clear hR hr
  go_enter Try.func15, Try.ntmps15
  go_wp2
  go_loop [6] (fun v => ∃ i : Nat, i ≤ L.length ∧ v = .int .i64 i ∧ Aside0 (spaceL (L.drop i) x = (r1, r2))) (fun v => L.length - (intOf v).toNat)
  case atStart => exact ⟨0, by omega, rfl, H0⟩
  case round =>
    clear H0
    obtain ⟨i, hi, rfl, HH⟩ := hrel
    have hi2 : i < L.length ∨ i = L.length := by omega
    rcases hi2 with hi2 | hi2
    · obtain ⟨ad, rfl, k0, k1⟩ := s_at HR.out i hi2
      have hd : L.drop i = L[i] :: L.drop (i + 1) := List.drop_eq_getElem_cons hi2
      have h2 := HH.out
      rw [hd] at h2
      have hstep : spaceL (L[i] :: L.drop (i + 1)) x = if L[i].1 = x then ((L[i].2 : Int), true) else spaceL (L.drop (i + 1)) x := by
        unfold spaceL
        rw [List.find?_cons]
        by_cases e : L[i].1 = x
        · rw [if_pos e, beq_iff_eq.2 e]
        · rw [if_neg e, beq_eq_false_iff_ne.2 e]
      rw [hstep] at h2
      clear hstep hd HH
      obtain ⟨y, hy⟩ : ∃ y, L[i].1 = y := ⟨_, rfl⟩
      obtain ⟨z, hz⟩ : ∃ z : Int, (L[i].2 : Int) = z := ⟨_, rfl⟩
      rw [hy] at k0 h2
      rw [hz] at k1 h2
      clear hy hz
      by_cases e : y = x
      · subst e
        rw [if_pos rfl] at h2
        simp only [Prod.mk.injEq] at h2
        obtain ⟨rfl, rfl⟩ := h2
        go_wp2
        go_ret2
        exact ⟨rfl, rfl⟩
      · rw [if_neg e] at h2
        have H2 := Aside0.mk h2
        have e2 : (y == x) = false := beq_eq_false_iff_ne.2 e
        clear h2 e
        go_wp2
        go_round
        case rel => exact ⟨i + 1, by omega, by go_num, H2⟩
        case measure => simp [intOf]; omega
    · subst hi2
      have h2 := HH.out
      rw [List.drop_length] at h2
      simp only [spaceL, List.find?_nil, Prod.mk.injEq] at h2
      obtain ⟨rfl, rfl⟩ := h2
      clear HH
      go_wp2
      go_ret2
      exact ⟨rfl, rfl⟩
theorem new_ref_no (n : Int) (h : n < 1 ∨ 8 < n) (w : World) : Calls Try.prog 11 #[.int .i64 n] w fun e w' => e = .returned (.pointer none) ∧ w = w' := by
  by_cases h1 : n < 1
  · have a1 : decide (n < 1) = true := decide_eq_true h1
    clear h
    go_enter Try.func11, Try.ntmps11
    go_wp2
    go_ret
    exact ⟨rfl, rfl⟩
  · have a1 : decide (n < 1) = false := decide_eq_false h1
    have a2 : decide (8 < n) = true := decide_eq_true (by omega)
    clear h h1
    go_enter Try.func11, Try.ntmps11
    go_wp2
    go_ret
    exact ⟨rfl, rfl⟩
set_option maxHeartbeats 1000000 in
theorem new_ref (n : Nat) (h1 : 1 ≤ n) (h8 : n ≤ 8) (w : World) (base : Nat) (hb : base ≤ w.heap.size) : Calls Try.prog 11 #[.int .i64 (n : Int)] w fun e w' => e = .returned (.pointer (some ⟨w.heap.size, 0, none⟩)) ∧ Sr w' base w.heap.size n [] ∧ RowKit.Below w.heap.size w w' := by
  have hB := Blk.new w 45 #[.int .i64 (n : Int), .slice none 0 0]
  have HS : Aside0 (Sr (w.alloc (.cells #[.int .i64 (n : Int), .slice none 0 0] 45)) base w.heap.size n [] ∧ RowKit.Below w.heap.size w (w.alloc (.cells #[.int .i64 (n : Int), .slice none 0 0] 45))) := ⟨⟨hb, _, hB, Kd.R_nil _ _ _ _ _⟩, (RowKit.Below.refl _ _).alloc (Nat.le_refl _) _⟩
  clear hB
  have a1 : (1 : Int) ≤ n := by omega
  have a2 : (n : Int) ≤ 8 := by omega
  go_enter Try.func11, Try.ntmps11
  go_wp2
  go_ret
  exact ⟨rfl, HS.out⟩
set_option maxHeartbeats 4000000 in
theorem rlist_any {w : World} {base g N : Nat} {L : Lru} (h : Sr w base g N L) (h8 : L.length ≤ 8) : Calls Try.prog 18 #[.pointer (some ⟨g, 0, none⟩)] w fun e w' => ∃ v, e = .returned v ∧ Kd.R (Kd.int .i64) 3 w' w.heap.size (fun _ => True) v (L.map Prod.fst) ∧ RowKit.Below w.heap.size w w' := by
  have hlt := h.lt
  obtain ⟨A, c, c0, c1, hR, hbk⟩ := h.open
  have HR := Aside0.mk hR
  have HBK := Aside0.mk (show Blk w g 45 #[.int .i64 (N : Int), .slice A L.length c] from hbk)
  clear hR hbk c0 c1
  go_enter Try.func18, Try.ntmps18
  go_wp2
  go_loopg [3, 4] L.length (fun gg v3 v4 wr => ∃ (i : Nat) (xs : List Int), v4 = .int .i64 i ∧ i ≤ L.length ∧ L.length - i ≤ gg ∧ Aside0 (xs = (L.take i).map Prod.fst) ∧ xs.length ≤ i ∧ Aside0 (Kd.R (Kd.int .i64) 3 wr w.heap.size (fun _ => True) v3 xs) ∧ Aside0 (RowKit.Below w.heap.size w wr))
  case atStart => exact ⟨0, [], rfl, by omega, by omega, ⟨rfl⟩, Nat.le_refl _, ⟨Kd.R_nil _ _ _ _ _⟩, ⟨RowKit.Below.refl _ _⟩⟩
  case round =>
    obtain ⟨i, xs, rfl, hi, hgg, HX, hxl, HO, HB⟩ := hrel
    have c1 : wr.cell? ⟨g, 1, none⟩ = some (.slice A L.length c) := (HBK.out.below_ HB.out).cell 1
    have hi2 : i < L.length ∨ i = L.length := by omega
    rcases hi2 with hi2 | hi2
    · obtain ⟨ad, e, k0, k1⟩ := s_at (Kd.R_below HR.out HB.out) i hi2
      subst e
      have HX2 := Aside0.mk (show xs ++ [L[i].1] = (L.take (i + 1)).map Prod.fst by rw [List.take_succ_eq_append_getElem hi2, List.map_append, HX.out]; rfl)
      generalize L[i].1 = y at k0 HX2
      have hd1 : decide ((i : Int) < (L.length : Int)) = true := decide_eq_true (by omega)
      clear k1 HX
      go_wp2_with ((with_reducible refine gate_builtin (b := .append) (xs := #[.tmp 14, .tmp 23]) rfl ?_); at_builtin; refine Kd.R_append (Kd.int .i64) (w0 := w) w.heap.size rfl (.tmp 14) (.tmp 23) 22 3 (.int .i64 0) 8 rfl Try.underlying22 info3 rfl (by decide) (by omega) u3 xs y [.int .i64 y] (fun _ => True) (fun _ => False) rfl rfl ?aP (fun _ hk => hk.elim) ?aF ?aO ?aB ?aS ?aL ?_; (case aP => exact rfl); (case aF => exact (fun _ _ => trivial)); (case aO => exact HO.out); (case aB => exact HB.out); (case aS => exact HB.out.size); (case aL => omega); intro v111 w6 ho hb6 hg6 hat6; have HO6 := Aside0.mk ho; have HB6 := Aside0.mk hb6; clear ho hb6 hg6 hat6)
      go_roundg (L.length - (i + 1))
      case measure => omega
      case rel => exact ⟨i + 1, _, by go_num, by omega, Nat.le_refl _, HX2, by simp only [List.length_append, List.length_cons, List.length_nil]; omega, HO6, HB6⟩
    · have hd1 : decide ((i : Int) < (L.length : Int)) = false := decide_eq_false (by omega)
      have HX2 := Aside0.mk (show xs = L.map Prod.fst by rw [HX.out, List.take_of_length_le (by omega)])
      clear HX
      go_wp2
      go_ret
      exact ⟨_, rfl, by rw [← HX2.out]; exact HO.out, HB.out⟩
set_option maxHeartbeats 4000000 in
theorem without_any {w : World} {base g N : Nat} {L : Lru} (x : Int) (h : Sr w base g N L) (h8 : L.length ≤ 8) : Calls Try.prog 19 #[.pointer (some ⟨g, 0, none⟩), .int .i64 x] w fun e w' => ∃ v, e = .returned v ∧ Kd.R k48 48 w' w.heap.size (fun _ => True) v ((L.filter (fun q => q.1 != x)).map toS) ∧ RowKit.Below w.heap.size w w' := by
  have hlt := h.lt
  obtain ⟨A, c, c0, c1, hR, hbk⟩ := h.open
  have HR := Aside0.mk hR
  have HBK := Aside0.mk (show Blk w g 45 #[.int .i64 (N : Int), .slice A L.length c] from hbk)
  clear hR hbk c0 c1
  go_enter Try.func19, Try.ntmps19
  go_wp2
  go_loopg [5, 6] L.length (fun gg v5 v6 wr => ∃ (i : Nat) (xs : List S48), v6 = .int .i64 i ∧ i ≤ L.length ∧ L.length - i ≤ gg ∧ Aside0 (xs = ((L.take i).filter (fun q => q.1 != x)).map toS) ∧ xs.length ≤ i ∧ Aside0 (Kd.R k48 48 wr w.heap.size (fun _ => True) v5 xs) ∧ Aside0 (RowKit.Below w.heap.size w wr))
  case atStart => exact ⟨0, [], rfl, by omega, by omega, ⟨rfl⟩, Nat.le_refl _, ⟨Kd.R_nil _ _ _ _ _⟩, ⟨RowKit.Below.refl _ _⟩⟩
  case round =>
    obtain ⟨i, xs, rfl, hi, hgg, HX, hxl, HO, HB⟩ := hrel
    have c1 : wr.cell? ⟨g, 1, none⟩ = some (.slice A L.length c) := (HBK.out.below_ HB.out).cell 1
    have hi2 : i < L.length ∨ i = L.length := by omega
    rcases hi2 with hi2 | hi2
    · obtain ⟨ad, e, k0, k1⟩ := s_at (Kd.R_below HR.out HB.out) i hi2
      subst e
      have hT : L.take (i + 1) = L.take i ++ [L[i]] := List.take_succ_eq_append_getElem hi2
      have hd1 : decide ((i : Int) < (L.length : Int)) = true := decide_eq_true (by omega)
      by_cases hyx : L[i].1 = x
      · have HX2 := Aside0.mk (show xs = ((L.take (i + 1)).filter (fun q => q.1 != x)).map toS by rw [hT, List.filter_append, List.filter_cons, if_neg (by simp [hyx]), HX.out]; simp)
        rw [hyx] at k0
        clear k1 HX hT hyx
        go_wp2
        go_roundg (L.length - (i + 1))
        case measure => omega
        case rel => exact ⟨i + 1, _, by go_num, by omega, Nat.le_refl _, HX2, by omega, HO, HB⟩
      · have HX2 := Aside0.mk (show xs ++ [(⟨L[i].1, (L[i].2 : Int)⟩ : S48)] = ((L.take (i + 1)).filter (fun q => q.1 != x)).map toS by rw [hT, List.filter_append, List.filter_cons, if_pos (by simpa using hyx), List.map_append, HX.out]; rfl)
        obtain ⟨y, hy⟩ : ∃ y, L[i].1 = y := ⟨_, rfl⟩
        obtain ⟨z, hz⟩ : ∃ z : Int, (L[i].2 : Int) = z := ⟨_, rfl⟩
        rw [hy] at k0 HX2 hyx
        rw [hz] at k1 HX2
        have e2 : (y == x) = false := beq_eq_false_iff_ne.2 hyx
        have e3 : (y != x) = true := bne_iff_ne.2 hyx
        clear HX hT hyx hy hz
        go_wp2_with ((with_reducible refine gate_builtin (b := .append) (xs := #[.tmp 26, .tmp 34]) rfl ?_); at_builtin; refine Kd.R_append k48 (w0 := w) w.heap.size rfl (.tmp 26) (.tmp 34) 43 48 (.agg #[(.int .i64 0), (.int .i64 0)]) 16 rfl Try.underlying43 info48 rfl (by decide) (by omega) u5 xs (⟨y, z⟩ : S48) [.int .i64 y, .int .i64 z] (fun _ => True) (fun _ => False) rfl rfl ?aP (fun _ hk => hk.elim) ?aF ?aO ?aB ?aS ?aL ?_; (case aP => exact k48_mkM _ _ _ (⟨y, z⟩ : S48)); (case aF => exact (fun _ _ => trivial)); (case aO => exact HO.out); (case aB => exact HB.out); (case aS => exact HB.out.size); (case aL => omega); intro v111 w6 ho hb6 hg6 hat6; have HO6 := Aside0.mk ho; have HB6 := Aside0.mk hb6; clear ho hb6 hg6 hat6)
        go_roundg (L.length - (i + 1))
        case measure => omega
        case rel => exact ⟨i + 1, _, by go_num, by omega, Nat.le_refl _, HX2, by simp only [List.length_append, List.length_cons, List.length_nil]; omega, HO6, HB6⟩
    · have hd1 : decide ((i : Int) < (L.length : Int)) = false := decide_eq_false (by omega)
      have HX2 := Aside0.mk (show xs = (L.filter (fun q => q.1 != x)).map toS by rw [HX.out, List.take_of_length_le (by omega)])
      clear HX
      go_wp2
      go_ret
      exact ⟨_, rfl, by rw [← HX2.out]; exact HO.out, HB.out⟩
end Go.Proofs.Ytbmpclgibimopaa.Walk
