/- Layer 18: the document's Use, walked. -/
import Derived.Test.YtbmpclgibimopaaRefW
namespace Go.Proofs.Ytbmpclgibimopaa.Walk
open Go.RowKit Go.Proofs.Ytbmpclgibimopaa.Blks Go.Proofs.YtbmpclgibimopaaW.PrintWords Go.Proofs.Ytbmpclgibimopaa.PRootsPlays
/-- The new list is laid into the document's Roots. -/
theorem Sr.store {w w6 : World} {base g N : Nat} {L L' : Lru} {v : Value} (h : Sr w base g N L) (hb : RowKit.Below w.heap.size w w6) (hR : Kd.R k48 48 w6 w.heap.size (fun _ => True) v (L'.map toS)) : Sr (w6.setCell ⟨g, 1, none⟩ v) base g N L' ∧ Only w (w6.setCell ⟨g, 1, none⟩ v) g := by
  have hlt := h.lt
  obtain ⟨hg, u, hu, _⟩ := h
  have hB : Blk w g 45 #[.int .i64 (N : Int), u] := hu
  have hB6 := hB.below_ hb
  have hB7 := hB6.set_ 1 v
  have e : (#[.int .i64 (N : Int), u] : Array Value).setIfInBounds 1 v = #[.int .i64 (N : Int), v] := rfl
  rw [e] at hB7
  refine ⟨⟨hg, v, hB7, ?_⟩, (Only.of_below hb g).setCell 1 v⟩
  exact kr_only (Kd.R_lower hR (by omega)) hB6 (by decide) ((Only.refl w6 g).setCell 1 v)
theorem Sr.cell1 {w w6 : World} {base g N : Nat} {L : Lru} (h : Sr w base g N L) (hb : RowKit.Below w.heap.size w w6) : ∃ u, w6.cell? ⟨g, 1, none⟩ = some u ∧ w6.frozen? ⟨g, 1, none⟩ = false := by
  obtain ⟨hg, u, hu, _⟩ := h
  have hB : Blk w g 45 #[.int .i64 (N : Int), u] := hu
  exact ⟨u, (hB.below_ hb).cell 1, (hB.below_ hb).frozen 1⟩
set_option maxHeartbeats 8000000 in
theorem ruse_any {w : World} {base g N : Nat} {L : Lru} (x : Int) (h : Sr w base g N L) (hN : 1 ≤ N) (h8 : L.length ≤ 8) (hle : L.length ≤ N) :
    Calls Try.prog 13 #[.pointer (some ⟨g, 0, none⟩), .int .i64 x] w fun e w' => e = .returned (.tuple #[.int .i64 ((useL N L x).2.1 : Nat), .bool (useL N L x).2.2]) ∧ Sr w' base g N (useL N L x).1 ∧ Only w w' g := by
  have hlt := h.lt
  have HS := Aside0.mk h
  have hsp := rspace_any x h h8
  have hwo := without_any x h h8
  unfold spaceL at hsp
  unfold useL
  clear h
  cases hf : L.find? (fun p => p.1 == x) with
  | some p =>
    rw [hf] at hsp
    dsimp only at hsp ⊢
    obtain ⟨s, hs⟩ : ∃ s : Nat, p.2 = s := ⟨_, rfl⟩
    rw [hs] at hsp ⊢
    obtain ⟨xs, hxs⟩ : ∃ xs, xs = (L.filter (fun q => q.1 != x)).map toS := ⟨_, rfl⟩
    have hxl : xs.length ≤ 8 := by rw [hxs, List.length_map]; have := List.length_filter_le (fun q : Int × Nat => q.1 != x) L; omega
    rw [← hxs] at hwo
    have HX := Aside0.mk (show xs ++ [(⟨x, (s : Int)⟩ : S48)] = (L.filter (fun q => q.1 != x) ++ [(x, s)]).map toS by rw [List.map_append, hxs]; rfl)
    clear hf hs hxs
    go_enter Try.func13, Try.ntmps13
    go_wp2_with fail
    with_reducible refine hsp.mono ?_
    rintro e w1 ⟨rfl, rfl⟩
    clear hsp
    go_wp2_with fail
    with_reducible refine hwo.mono ?_
    rintro e w2 ⟨v, rfl, hR, hb⟩
    have HR := Aside0.mk hR
    have HB := Aside0.mk hb
    clear hwo hR hb
    go_wp2_with ((with_reducible refine gate_builtin (b := .append) (xs := #[.tmp 20, .tmp 24]) rfl ?_); at_builtin; refine Kd.R_append k48 (w0 := w) w.heap.size rfl (.tmp 20) (.tmp 24) 43 48 (.agg #[(.int .i64 0), (.int .i64 0)]) 16 rfl Try.underlying43 info48 rfl (by decide) (by omega) v xs (⟨x, (s : Int)⟩ : S48) [.int .i64 x, .int .i64 (s : Int)] (fun _ => True) (fun _ => False) rfl rfl ?aP (fun _ hk => hk.elim) ?aF ?aO ?aB ?aS ?aL ?_; (case aP => exact k48_mkM _ _ _ (⟨x, (s : Int)⟩ : S48)); (case aF => exact (fun _ _ => trivial)); (case aO => exact HR.out); (case aB => exact HB.out); (case aS => exact HB.out.size); (case aL => omega); intro v111 w6 ho hb6 hg6 hat6; rw [HX.out] at ho; obtain ⟨A6, m6, c6, e6⟩ : ∃ A m c, v111 = .slice A m c := (by obtain ⟨A, c, e⟩ := Kd.R_slice ho; exact ⟨A, _, c, e⟩); subst e6; have HO6 := Aside0.mk ho; have HB6 := Aside0.mk hb6; obtain ⟨u6, k6, f6⟩ := HS.out.cell1 hb6; clear ho hb6 hg6 hat6)
    go_ret2
    exact ⟨rfl, HS.out.store HB6.out HO6.out⟩
  | none =>
    rw [hf] at hsp
    dsimp only at hsp ⊢
    obtain ⟨A, c, c0, c1, hR, hbk⟩ := HS.out.open
    have HR := Aside0.mk hR
    have HBK := Aside0.mk (show Blk w g 45 #[.int .i64 (N : Int), .slice A L.length c] from hbk)
    have HC0 := Aside0.mk (Kd.R_reads' hR).2.2
    have hmap : (L.map toS).length = L.length := List.length_map ..
    clear hf hwo hR hbk
    by_cases hl : L.length < N
    · rw [if_pos hl]
      have HX := Aside0.mk (show L.map toS ++ [(⟨x, (L.length : Int)⟩ : S48)] = (L ++ [(x, L.length)]).map toS by rw [List.map_append]; rfl)
      have hd : decide ((L.length : Int) < (N : Int)) = true := decide_eq_true (by omega)
      have hd2 : decide (L.length < N) = true := decide_eq_true hl
      obtain ⟨n, hn⟩ : ∃ n, L.length = n := ⟨_, rfl⟩
      have HN := Aside0.mk hn
      rw [hn] at c1 HR HX HBK hmap hd hd2 hl h8 ⊢
      clear hn hle
      go_enter Try.func13, Try.ntmps13
      go_wp2_with fail
      with_reducible refine hsp.mono ?_
      rintro e w1 ⟨rfl, rfl⟩
      clear hsp
      go_wp2
      go_quiet (fail)
      go_upto_region 7 with (fail)
      have HBq := Aside0.mk (below_drewN (RowKit.Below.refl w.heap.size w) nq)
      obtain ⟨ys, hys⟩ : ∃ ys, L.map toS = ys := ⟨_, rfl⟩
      rw [hys] at HX HC0 hmap
      have HC0 := Aside0.mk (show k48.C w A n ys by have := HC0.out; rwa [hmap] at this)
      clear HR c0 c1 hys
      generalize w.drewN nq = wq at HBq ⊢
      go_wp2_with (first | ((with_reducible refine gate_dst (N := 45) rfl ?_); refine Kd.R_lit k48 w.heap.size 48 ?hg (N := 45) ?hd (xs := ([] : List S48)) (inner := []) (ok := fun _ => True) (okp := fun _ => True) ?hr ?hp (fun _ hk => hk) trivial HBq.out HBq.out.size (by simp) ?_; (case hd => rfl); (case hg => rfl); (case hr => first | (go_simp; done) | (go_simp; rfl)); (case hp => exact (Reps.none _ _)); intro v45 wl hol hbl hg_ hnew_; clear hg_ hnew_; have HOl := Aside0.mk hol; have HBl := Aside0.mk hbl; have c1l : wl.cell? ⟨g, 1, none⟩ = some (.slice A n c) := (HBK.out.below_ HBl.out).cell 1; have HCl := Aside0.mk (Kd.C_below HC0.out hbl); clear hol hbl) | ((with_reducible refine gate_builtin (b := .append) (xs := #[.tmp 45, .tmp 49]) rfl ?_); at_builtin; refine Kd.R_append_rows k48 (Rr := k48.K wl) (w0 := w) w.heap.size rfl (.tmp 45) (.tmp 49) 43 48 (.agg #[(.int .i64 0), (.int .i64 0)]) 16 rfl Try.underlying43 info48 rfl (by decide) (by omega) v45 [] (ys) _ _ _ (fun _ => True) (fun _ => False) rfl rfl ?aO ?aR ?aK (fun _ h => h.elim) ?aF ?aB ?aS ?aL ?_; (case aR => exact HCl.out); (case aK => intro y cs h; obtain rfl := k48_open h; exact k48_mkM _ _ _ y); (case aB => exact HBl.out); (case aF => exact (fun _ _ => trivial)); (case aO => exact HOl.out); (case aS => exact HBl.out.size); (case aL => simp only [List.length_nil]; omega); intro v50 w5 ho hb5 hg5 hat5; rw [List.nil_append] at ho; have HO5 := Aside0.mk ho; have HB5 := Aside0.mk hb5; clear ho hb5 hg5 hat5) | ((with_reducible refine gate_builtin (b := .append) (xs := #[.tmp 50, .tmp 54]) rfl ?_); at_builtin; refine Kd.R_append k48 (w0 := w) w.heap.size rfl (.tmp 50) (.tmp 54) 43 48 (.agg #[(.int .i64 0), (.int .i64 0)]) 16 rfl Try.underlying43 info48 rfl (by decide) (by omega) v50 (ys) (⟨x, (n : Int)⟩ : S48) [.int .i64 x, .int .i64 (n : Int)] (fun _ => True) (fun _ => False) rfl rfl ?aP (fun _ hk => hk.elim) ?aF ?aO ?aB ?aS ?aL ?_; (case aP => exact k48_mkM _ _ _ (⟨x, (n : Int)⟩ : S48)); (case aF => exact (fun _ _ => trivial)); (case aO => exact HO5.out); (case aB => exact HB5.out); (case aS => exact HB5.out.size); (case aL => first | omega | (simp only [List.length_map]; omega)); intro v111 w6 ho hb6 hg6 hat6; rw [HX.out] at ho; obtain ⟨A6, m6, c6, e6⟩ : ∃ A m c, v111 = .slice A m c := (by obtain ⟨A, c, e⟩ := Kd.R_slice ho; exact ⟨A, _, c, e⟩); subst e6; have HO6 := Aside0.mk ho; have HB6 := Aside0.mk hb6; obtain ⟨u6, k6, f6⟩ := HS.out.cell1 hb6; clear ho hb6 hg6 hat6))
      go_ret2
      exact ⟨rfl, HS.out.store HB6.out HO6.out⟩
    · rw [if_neg hl]
      obtain ⟨p, L', rfl⟩ : ∃ p L', L = p :: L' := by
        cases L with
        | nil => simp only [List.length_nil] at hl; omega
        | cons p t => exact ⟨_, _, rfl⟩
      dsimp only
      obtain ⟨ad, rfl, k0, k1⟩ := s_at HR.out 0 (by simp)
      change w.cell? ⟨ad.block, ad.off + 1, none⟩ = some (.int .i64 (p.2 : Int)) at k1
      obtain ⟨s, hs⟩ : ∃ s : Nat, p.2 = s := ⟨_, rfl⟩
      rw [hs] at k1 ⊢
      have HX := Aside0.mk (show L'.map toS ++ [(⟨x, (s : Int)⟩ : S48)] = (L' ++ [(x, s)]).map toS by rw [List.map_append]; rfl)
      obtain ⟨n, hn⟩ : ∃ n, (p :: L').length = n := ⟨_, rfl⟩
      have hn1 : L'.length = n - 1 := by rw [← hn]; simp
      have hn0 : 1 ≤ n := by rw [← hn]; simp
      have hmap2 : (L'.map toS).length = n - 1 := by rw [List.length_map]; exact hn1
      rw [hn] at c1 HR HBK hmap hl h8 hle
      have hd : decide ((n : Int) < (N : Int)) = false := decide_eq_false (by omega)
      have hd2 : decide (n < N) = false := decide_eq_false hl
      have hnc : n ≤ c := (Kd.R_reads' HR.out).2.1
      have HC1 := Aside0.mk (show k48.C w (if c = 1 then some ad else some (ad.add 2)) (n - 1) (L'.map toS) by
        have h := Kd.C_drop (m := 1) (c := c) HC0.out (by simp) (by rw [List.length_map, hn]; exact hnc)
        have e : (List.drop 1 ((p :: L').map toS)) = L'.map toS := rfl
        rw [e, hmap2] at h
        exact h)
      clear hn hs k0 HC0
      go_enter Try.func13, Try.ntmps13
      go_wp2_with fail
      with_reducible refine hsp.mono ?_
      rintro e w1 ⟨rfl, rfl⟩
      clear hsp
      go_wp2
      go_quiet (fail)
      go_upto_region 9 with (fail)
      have HBq := Aside0.mk (below_drewN (RowKit.Below.refl w.heap.size w) nq)
      have k1q : (w.drewN nq).cell? ⟨ad.block, ad.off + 1, none⟩ = some (.int .i64 (s : Int)) := k1
      have c1q : (w.drewN nq).cell? ⟨g, 1, none⟩ = some (.slice (some ad) n c) := c1
      clear c0 c1 k1
      generalize w.drewN nq = wq at HBq k1q c1q ⊢
      go_upto_region 10 with (fail)
      obtain ⟨ys, hys⟩ : ∃ ys, L'.map toS = ys := ⟨_, rfl⟩
      rw [hys] at HX HC1 hmap2
      have HC0 := HC1
      clear HR HC1 c1q k1q hys hmap
      go_wp2_with (first | ((with_reducible refine gate_dst (N := 67) rfl ?_); refine Kd.R_lit k48 w.heap.size 48 ?hg (N := 67) ?hd (xs := ([] : List S48)) (inner := []) (ok := fun _ => True) (okp := fun _ => True) ?hr ?hp (fun _ hk => hk) trivial HBq.out HBq.out.size (by simp) ?_; (case hd => rfl); (case hg => rfl); (case hr => first | (go_simp; done) | (go_simp; rfl)); (case hp => exact (Reps.none _ _)); intro v45 wl hol hbl hg_ hnew_; clear hg_ hnew_; have HOl := Aside0.mk hol; have HBl := Aside0.mk hbl; have c1l : wl.cell? ⟨g, 1, none⟩ = some (.slice (some ad) n c) := (HBK.out.below_ HBl.out).cell 1; have HCl := Aside0.mk (Kd.C_below HC0.out hbl); clear hol hbl) | ((with_reducible refine gate_builtin (b := .append) (xs := #[.tmp 67, .tmp 72]) rfl ?_); at_builtin; refine Kd.R_append_rows k48 (Rr := k48.K wl) (w0 := w) w.heap.size rfl (.tmp 67) (.tmp 72) 43 48 (.agg #[(.int .i64 0), (.int .i64 0)]) 16 rfl Try.underlying43 info48 rfl (by decide) (by omega) v45 [] (ys) _ _ _ (fun _ => True) (fun _ => False) rfl rfl ?aO ?aR ?aK (fun _ h => h.elim) ?aF ?aB ?aS ?aL ?_; (case aR => exact HCl.out); (case aK => intro y cs h; obtain rfl := k48_open h; exact k48_mkM _ _ _ y); (case aB => exact HBl.out); (case aF => exact (fun _ _ => trivial)); (case aO => exact HOl.out); (case aS => exact HBl.out.size); (case aL => simp only [List.length_nil]; omega); intro v50 w5 ho hb5 hg5 hat5; rw [List.nil_append] at ho; have HO5 := Aside0.mk ho; have HB5 := Aside0.mk hb5; clear ho hb5 hg5 hat5) | ((with_reducible refine gate_builtin (b := .append) (xs := #[.tmp 73, .tmp 77]) rfl ?_); at_builtin; refine Kd.R_append k48 (w0 := w) w.heap.size rfl (.tmp 73) (.tmp 77) 43 48 (.agg #[(.int .i64 0), (.int .i64 0)]) 16 rfl Try.underlying43 info48 rfl (by decide) (by omega) v50 (ys) (⟨x, (s : Int)⟩ : S48) [.int .i64 x, .int .i64 (s : Int)] (fun _ => True) (fun _ => False) rfl rfl ?aP (fun _ hk => hk.elim) ?aF ?aO ?aB ?aS ?aL ?_; (case aP => exact k48_mkM _ _ _ (⟨x, (s : Int)⟩ : S48)); (case aF => exact (fun _ _ => trivial)); (case aO => exact HO5.out); (case aB => exact HB5.out); (case aS => exact HB5.out.size); (case aL => first | omega | (simp only [List.length_map]; omega)); intro v111 w6 ho hb6 hg6 hat6; rw [HX.out] at ho; obtain ⟨A6, m6, c6, e6⟩ : ∃ A m c, v111 = .slice A m c := (by obtain ⟨A, c, e⟩ := Kd.R_slice ho; exact ⟨A, _, c, e⟩); subst e6; have HO6 := Aside0.mk ho; have HB6 := Aside0.mk hb6; obtain ⟨u6, k6, f6⟩ := HS.out.cell1 hb6; clear ho hb6 hg6 hat6))
      all_goals go_ret2
      all_goals exact ⟨rfl, HS.out.store HB6.out HO6.out⟩
end Go.Proofs.Ytbmpclgibimopaa.Walk
