/- Layer 18: RootsLately, walked. -/
import Derived.Test.YtbmpclgibimopaaFewW
import Derived.Test.YtbmpclgibimopaaUsedW
import Derived.Test.YtbmpclgibimopaaLateP
namespace Go.Proofs.Ytbmpclgibimopaa.Walk
open Go.RowKit Go.Proofs.Ytbmpclgibimopaa.Blks Go.Proofs.YtbmpclgibimopaaW.PrintWords
/-- What the law collects is what List tells. -/
theorem late_eq (l : List Int) (L : Lru) (S : List Int) (N j : Nat) (h : (L.map Prod.fst).reverse = (nub l.reverse).take N) (hS : S.reverse = nub (l.drop j).reverse) (hN : S.length ≤ N) (hj : j = 0 ∨ S.length = N) : L.map Prod.fst = S := by
  have e : l.reverse = (l.drop j).reverse ++ (l.take j).reverse := by rw [← List.reverse_append, List.take_append_drop]
  have hlen : (nub (l.drop j).reverse).length = S.length := by rw [← hS, List.length_reverse]
  have hr : (L.map Prod.fst).reverse = S.reverse := by
    rw [h, hS]
    rcases hj with rfl | hj
    · rw [List.drop_zero] at hlen ⊢
      exact List.take_of_length_le (by omega)
    · rw [e]
      have : nub ((l.drop j).reverse ++ (l.take j).reverse) = nubF (nub (l.drop j).reverse) (l.take j).reverse := nubF_app _ _ _
      rw [this]
      obtain ⟨C, hC⟩ := nubF_pre (l.take j).reverse (nub (l.drop j).reverse)
      rw [hC, List.take_append_of_le_length (by omega), List.take_of_length_le (by omega)]
  have := congrArg List.reverse hr
  rwa [List.reverse_reverse, List.reverse_reverse] at this
set_option maxHeartbeats 8000000 in
set_option maxRecDepth 100000 in
theorem lately_any (A : Option Addr) (c : Nat) (a : Int) (l : List Int) (w : World) (ha : (Lit.int .u8 a).wf = true) (hC : Kd.C (Kd.int .i64) w A l.length l) :
    Calls Try.prog 5 #[.int .u8 a, .slice A l.length c] w fun e w' => e = .returned (.bool true) ∧ RowKit.Below w.heap.size w w' := by
  have HC := Aside0.mk hC
  obtain ⟨n, hn⟩ : ∃ n, l.length = n := ⟨_, rfl⟩
  have HN := Aside0.mk hn
  rw [hn]
  have ha2 : 0 ≤ a ∧ a < 256 := by simp [Lit.wf, IntKind.min, IntKind.max, IntKind.bits, IntKind.signed] at ha; omega
  obtain ⟨ha0, ha1⟩ := ha2
  obtain ⟨N, hN⟩ : ∃ N : Nat, (N : Int) = 1 + a % 8 := ⟨(1 + a % 8).toNat, by omega⟩
  have hnew : ∀ w : World, Calls Try.prog 10 #[.int .i64 (1 + a % 8)] w fun e w' => e = .returned (.pointer (some ⟨w.heap.size, 0, none⟩)) ∧ St w' w.heap.size N [] 0 ∧ RowKit.Below w.heap.size w w' := fun w => by rw [← hN]; exact new_St N (by omega) (by omega) w
  have HM := Aside0.mk hN
  have HM1 := Aside0.mk (show 1 ≤ N ∧ N ≤ 8 by omega)
  clear hn hC ha hN
  go_enter Try.func5, Try.ntmps5
  go_wp2_with fail
  with_reducible refine (head_any w).mono ?_
  rintro e w1 ⟨rfl, hb⟩
  have HB1 := Aside0.mk hb
  clear hb
  go_wp2_with fail
  with_reducible refine (hnew w1).mono ?_
  rintro e w2 ⟨rfl, hS, hb⟩
  have HS := Aside0.mk hS
  have HB2 := Aside0.mk (below_step HB1.out hb)
  have hge : w.heap.size ≤ w1.heap.size := HB1.out.size
  obtain ⟨g, hg⟩ : ∃ g, w1.heap.size = g := ⟨_, rfl⟩
  rw [hg] at HS hge
  rw [hg]
  have HG := Aside0.mk hge
  clear hS hb hge hg HB1 hnew
  by_cases hbig : 600 < n
  · have h1 : decide ((600 : Int) < (n : Int)) = true := decide_eq_true (by omega)
    have h2 : decide (600 < n) = true := decide_eq_true hbig
    go_wp2
    go_ret
    exact ⟨rfl, HB2.out⟩
  · have h1 : decide ((600 : Int) < (n : Int)) = false := decide_eq_false (by omega)
    have h2 : decide (600 < n) = false := decide_eq_false hbig
    have hsmall : n ≤ 600 := by omega
    clear hbig
    go_wp2
    go_loopg [8] n (fun gg v8 wr => ∃ (i : Nat) (L : Lru), v8 = .int .i64 i ∧ i ≤ n ∧ n - i ≤ gg ∧ Aside0 (St wr g N L i) ∧ Aside0 (RowKit.Below w.heap.size w wr) ∧ Aside0 ((L.map Prod.fst).reverse = (nub (l.take i).reverse).take N))
    case atStart => exact ⟨0, [], rfl, by omega, by omega, HS, HB2, ⟨by simp [nub, nubF]⟩⟩
    case round =>
      clear HS HB2
      obtain ⟨i, L, rfl, hin, hgg, HS, HB, HW⟩ := hrel
      have hl2 : i < n ∨ i = n := by omega
      rcases hl2 with hl2 | hl2
      · have hil : i < l.length := by have := HN.out; omega
        obtain ⟨ad, rfl, hx⟩ := int_at HC.out HB.out i hil
        have hd1 : decide ((i : Int) < (n : Int)) = true := decide_eq_true (by omega)
        have hW2 : ((useL N L l[i]).1.map Prod.fst).reverse = (nub (l.take (i + 1)).reverse).take N := by
          rw [use_roots N L _ HM1.out.1, use_late N _ _ _ HM1.out.1 (nub_nodup _) HW.out, ← nub_cons, List.take_succ_eq_append_getElem hil, List.reverse_append]; rfl
        generalize l[i] = y at hx hW2
        have HW2 := Aside0.mk hW2
        have hu := use_St y HS.out (by omega)
        clear hW2
        go_wp2_with fail
        with_reducible refine hu.mono ?_
        rintro e w3 ⟨rfl, hS, ho⟩
        have HS3 := Aside0.mk hS
        have HB3 := Aside0.mk (Only.below HB.out HB.out.size HG.out ho)
        clear hS ho hu
        go_wp2
        go_roundg (n - (i + 1))
        case measure => omega
        case rel => exact ⟨i + 1, _, by go_num, by omega, Nat.le_refl _, HS3, HB3, HW2⟩
      · subst hl2
        rw [List.take_of_length_le (Nat.le_of_eq HN.out)] at HW
        have hd1 : decide ((i : Int) < (i : Int)) = false := decide_eq_false (by omega)
        go_wp2
        go_loopg [9, 10, 11, 12] i (fun gg v9 v10 _ _ wr => ∃ (j : Nat) (t : Int) (S : List Int), v10 = .int .i64 t ∧ Aside0 (t = (j : Int) - 1) ∧ j ≤ i ∧ j ≤ gg ∧ Aside0 (St wr g N L i) ∧ Aside0 (RowKit.Below w.heap.size w wr) ∧ Aside0 (S.reverse = nub (l.drop j).reverse ∧ S.length ≤ N) ∧ Aside0 (Kd.R (Kd.int .i64) 3 wr w.heap.size (fun _ => True) v9 S))
        case atStart => exact ⟨i, _, [], rfl, ⟨rfl⟩, Nat.le_refl _, Nat.le_refl _, HS, HB, ⟨by rw [List.drop_of_length_le (Nat.le_of_eq HN.out)]; simp [nub, nubF]⟩, ⟨Kd.R_nil _ _ _ _ _⟩⟩
        case round =>
          clear HS HB
          obtain ⟨j, t, S, rfl, HT, hji, hjg, HS, HB, HL, HR⟩ := hrel
          obtain ⟨AS, cS, rfl⟩ := Kd.R_slice HR.out
          have hSl : S.length ≤ 8 := by have := HL.out.2; have := HM1.out.2; omega
          have hNN : (N : Int) = 1 + a % 8 := HM.out
          cases j with
          | zero =>
            obtain rfl : t = -1 := by have := HT.out; omega
            have HE := Aside0.mk (late_eq l L S N 0 HW.out HL.out.1 HL.out.2 (.inl rfl))
            go_wp2_with fail
            with_reducible refine (list_St HS.out (by omega)).mono ?_
            rintro e w5 ⟨v, rfl, hR5, hb5⟩
            obtain ⟨A5, c5, rfl⟩ := Kd.R_slice hR5
            have hsame := same_any A5 AS c5 cS (L.map Prod.fst) S w5 (Kd.R_reads' hR5).2.2 (Kd.R_reads' hR5).2.1 (Kd.C_below (Kd.R_reads' HR.out).2.2 hb5) (Kd.R_reads' HR.out).2.1 (by rw [HE.out]; omega)
            rw [decide_eq_true HE.out, List.length_map] at hsame
            have HB5 := Aside0.mk (below_step HB.out hb5)
            clear hR5 hb5
            go_wp2_with fail
            with_reducible refine hsame.mono ?_
            rintro e w6 ⟨rfl, q, rfl⟩
            clear hsame
            go_wp2
            go_ret
            exact ⟨rfl, below_drewN HB5.out q⟩
          | succ j' =>
            obtain rfl : t = (j' : Int) := by have := HT.out; omega
            have p0 : decide ((0 : Int) ≤ (j' : Int)) = true := decide_eq_true (by omega)
            by_cases hfull : S.length = N
            · have HE := Aside0.mk (late_eq l L S N (j' + 1) HW.out HL.out.1 HL.out.2 (.inr hfull))
              have p1 : decide ((S.length : Int) < 1 + a % 8) = false := decide_eq_false (by omega)
              clear hfull hNN
              go_wp2_with fail
              with_reducible refine (list_St HS.out (by omega)).mono ?_
              rintro e w5 ⟨v, rfl, hR5, hb5⟩
              obtain ⟨A5, c5, rfl⟩ := Kd.R_slice hR5
              have hsame := same_any A5 AS c5 cS (L.map Prod.fst) S w5 (Kd.R_reads' hR5).2.2 (Kd.R_reads' hR5).2.1 (Kd.C_below (Kd.R_reads' HR.out).2.2 hb5) (Kd.R_reads' HR.out).2.1 (by rw [HE.out]; omega)
              rw [decide_eq_true HE.out, List.length_map] at hsame
              have HB5 := Aside0.mk (below_step HB.out hb5)
              clear hR5 hb5
              go_wp2_with fail
              with_reducible refine hsame.mono ?_
              rintro e w6 ⟨rfl, q, rfl⟩
              clear hsame
              go_wp2
              go_ret
              exact ⟨rfl, below_drewN HB5.out q⟩
            · have p1 : decide ((S.length : Int) < 1 + a % 8) = true := decide_eq_true (by have := HL.out.2; omega)
              have hSN : S.length < N := by have := HL.out.2; omega
              have hjl : j' < l.length := by have := HN.out; omega
              clear hfull hNN
              obtain ⟨x, hxe⟩ : ∃ x, l[j'] = x := ⟨_, rfl⟩
              have HXE := Aside0.mk hxe
              clear hxe
              obtain ⟨wo, hwo⟩ : ∃ wo : World, wo = wr := ⟨_, rfl⟩
              subst hwo
              have HCS := Aside0.mk (Kd.R_reads' HR.out).2.2
              go_wp2
              go_loopw [11, 12] (fun v11 v12 w' => ∃ (k q : Nat) (b : Bool), v11 = .bool b ∧ v12 = .int .i64 k ∧ k ≤ S.length ∧ Aside0 (b = decide (x ∈ S.take k)) ∧ w' = wo.drewN q) (fun _ v12 _ => S.length - (intOf v12).toNat)
              case atStart => exact ⟨0, 0, false, rfl, rfl, Nat.zero_le _, ⟨by simp⟩, rfl⟩
              case round =>
                obtain ⟨k, q, b, rfl, rfl, hk, HA, rfl⟩ := hrel
                have hk2 : k < S.length ∨ k = S.length := by omega
                rcases hk2 with hk2 | hk2
                · have hd2 : decide ((k : Int) < (S.length : Int)) = true := decide_eq_true (by omega)
                  obtain ⟨y, hye⟩ : ∃ y, S[k] = y := ⟨_, rfl⟩
                  have HT2 : S.take (k + 1) = S.take k ++ [y] := by rw [List.take_succ_eq_append_getElem hk2, hye]
                  cases b with
                  | true =>
                    have hin := of_decide_eq_true HA.out.symm
                    have HA2 := Aside0.mk (show true = decide (x ∈ S.take (k + 1)) from (decide_eq_true (by rw [HT2]; exact List.mem_append_left _ hin)).symm)
                    clear HT2 hin hye
                    go_wp2
                    go_quiet (fail)
                    go_wp2
                    go_roundw
                    case rel => exact ⟨k + 1, _, true, rfl, by go_num, by omega, HA2, rfl⟩
                    case measure => simp [intOf]; omega
                  | false =>
                    have hout := of_decide_eq_false HA.out.symm
                    obtain ⟨ad2, e2, hy⟩ := int_at HCS.out (RowKit.Below.refl _ _) k hk2
                    subst e2
                    rw [hye] at hy
                    obtain ⟨ad3, e3, hx⟩ := int_at HC.out HB.out j' hjl
                    subst e3
                    rw [HXE.out] at hx
                    have HA2 := Aside0.mk (show (y == x) = decide (x ∈ S.take (k + 1)) by
                      rw [HT2, Bool.eq_iff_iff, beq_iff_eq, decide_eq_true_eq, List.mem_append, List.mem_singleton]
                      exact ⟨fun h => .inr h.symm, fun h => h.elim (fun h => absurd h hout) Eq.symm⟩)
                    clear HT2 hout hye
                    go_wp2
                    go_quiet (fail)
                    go_wp2
                    go_roundw
                    case rel => exact ⟨k + 1, _, (y == x), rfl, by go_num, by omega, HA2, rfl⟩
                    case measure => simp [intOf]; omega
                · subst hk2
                  rw [List.take_length] at HA
                  have HSq := Aside0.mk (HS.out.drewN q)
                  have HBq := Aside0.mk (below_drewN HB.out q)
                  have HRq := Aside0.mk (Kd.R_drewN HR.out q)
                  have hd2 : decide ((S.length : Int) < (S.length : Int)) = false := decide_eq_false (by omega)
                  obtain ⟨ad3, e3, hx⟩ := int_at HC.out HBq.out j' hjl
                  subst e3
                  rw [HXE.out] at hx
                  clear HS HB HR HCS
                  have hdr : (l.drop j').reverse = (l.drop (j' + 1)).reverse ++ [x] := by
                    rw [List.drop_eq_getElem_cons hjl, HXE.out, List.reverse_cons]
                  generalize wo.drewN q = wq at HSq HBq HRq hx ⊢
                  cases b with
                  | true =>
                    have hin := of_decide_eq_true HA.out.symm
                    have HL2 := Aside0.mk (show S.reverse = nub (l.drop j').reverse ∧ S.length ≤ N from ⟨by rw [hdr, nub_snoc, ← HL.out.1, if_pos (List.mem_reverse.2 hin)], HL.out.2⟩)
                    clear hin hdr hx
                    go_wp2
                    go_roundg j'
                    case measure => omega
                    case rel => exact ⟨j', _, S, rfl, ⟨by omega⟩, by omega, Nat.le_refl _, HSq, HBq, HL2, HRq⟩
                  | false =>
                    have hout := of_decide_eq_false HA.out.symm
                    have HL2 := Aside0.mk (show (x :: S).reverse = nub (l.drop j').reverse ∧ (x :: S).length ≤ N from ⟨by rw [hdr, nub_snoc, ← HL.out.1, if_neg (fun h => hout (List.mem_reverse.1 h)), List.reverse_cons], by rw [List.length_cons]; omega⟩)
                    clear hout hdr
                    go_wp2_with (first | ((with_reducible refine gate_dst (N := 81) rfl ?_); refine Kd.R_lit (Kd.int .i64) _ 3 ?hg (N := 81) ?hd (xs := [x]) (inner := [.int .i64 x]) (ok := fun _ => True) (okp := fun _ => True) ?hr ?hp (fun _ hk => hk) trivial (RowKit.Below.refl _ _) (Nat.le_refl _) (by simp) ?_; (case hd => rfl); (case hg => rfl); (case hr => first | (go_simp; done) | (go_simp; rfl)); (case hp => exact Reps.front rfl rfl (Reps.none _ _) rfl); intro v81 wl hol hbl hg_ hnew_; clear hg_ hnew_; have HOl := Aside0.mk (Kd.R_lower hol HBq.out.size); have HBl := Aside0.mk (below_step HBq.out hbl); have HSl := Aside0.mk (HSq.out.below hbl); have HCl := Aside0.mk (Kd.C_below (Kd.R_reads' HRq.out).2.2 hbl); clear hol hbl) | ((with_reducible refine gate_builtin (b := .append) (xs := #[.tmp 81, .tmp 82]) rfl ?_); at_builtin; refine Kd.R_append_rows (Kd.int .i64) (w0 := w) w.heap.size rfl (.tmp 81) (.tmp 82) 22 3 (.int .i64 0) 8 rfl Try.underlying22 info3 rfl (by decide) (by omega) v81 [x] S _ _ _ (fun _ => True) (fun _ => False) rfl rfl ?aO ?aR (fun _ _ h => h) (fun _ h => h.elim) ?aF ?aB ?aS ?aL ?_; (case aR => exact HCl.out); (case aB => exact HBl.out); (case aF => exact (fun _ _ => trivial)); (case aO => exact HOl.out); (case aS => exact HBl.out.size); (case aL => simp only [List.length_singleton]; omega); intro v83 w6 ho hb6 hg6 hat6; have HR6 := Aside0.mk ho; have HB6 := Aside0.mk hb6; obtain ⟨cs6, hcs6⟩ := HSl.out.blk; have HS6 := Aside0.mk (HSl.out.grown hg6 (Kd.R_ne HOl.out hcs6 (by decide))); clear ho hb6 hg6 hat6 hcs6))
                    go_roundg j'
                    case measure => omega
                    case rel => exact ⟨j', _, x :: S, rfl, ⟨by omega⟩, by omega, Nat.le_refl _, HS6, HB6, HL2, HR6⟩
end Go.Proofs.Ytbmpclgibimopaa.Walk
