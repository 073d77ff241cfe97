/- Layer 18: roots.Roots.List, walked: the roots of the used spaces, the one that was used least lately first. -/
import Derived.Test.YtbmpclgibimopaaList2
namespace Go.Proofs.Ytbmpclgibimopaa.Walk
open Go.RowKit Go.Lib Go.Shelf Go.Sort Go.Proofs.Ytbmpclgibimopaa.Blks Go.Proofs.YtbmpclgibimopaaW.PrintWords Go.Proofs.YtbmpclgibimopaaW.PrintLast Go.Proofs.YtbmpclgibimopaaW.PrintMore
/-- What List tells. -/
def Told (s : RS) (k : Nat) (w : World) (e : Ending) (w' : World) : Prop := ∃ (v : Value) (l : List (Int × Int)), e = .returned v ∧ l.Perm (s.sp.take k) ∧ l.Pairwise (fun a b => ¬ b.2 < a.2) ∧ Kd.R (Kd.int .i64) 3 w' w.heap.size (fun _ => True) v (l.map Prod.fst) ∧ RowKit.Below w.heap.size w w'
set_option maxHeartbeats 8000000 in
theorem list_any (gx : Nat) (s : RS) (k : Nat) (w : World) (hB : Blk w gx 42 s.cells) (hk : s.Ok) (hkm : k ≤ s.many) (hu : ∀ i, i < s.many → (0 ≤ s.us i ∧ s.us i < 4611686018427387904) ∧ (s.us i == 0) = decide (k ≤ i)) :
    Calls Try.prog 17 #[.pointer (some ⟨gx, 0, none⟩)] w (Told s k w) := by
  have hlt := hB.lt
  have c0 := cell_many hB
  obtain ⟨d, hd⟩ := sp_list (s.sp.take s.many) (by
    intro x hx
    obtain ⟨i, hi, rfl⟩ := List.getElem_of_mem hx
    rw [List.length_take] at hi
    have := (hu i (by omega)).1
    rw [List.getElem_take]
    have e : s.us i = (s.sp[i]'(by omega)).2 := by unfold RS.us; rw [List.getD_eq_getElem?_getD, List.getElem?_eq_getElem (by omega)]; rfl
    rw [← e]
    exact this)
  have hm8 := hk.m8
  have hm1 := hk.m1
  have hlen : d.length = s.many := by
    have := congrArg List.length hd
    rw [List.length_map, List.length_take, hk.len] at this
    omega
  have hat : ∀ i (h : i < d.length), (d[i]).val.2 = s.us i := by
    intro i hi
    have : (d.map Sp.val)[i]? = (s.sp.take s.many)[i]? := by rw [hd]
    rw [List.getElem?_map, List.getElem?_eq_getElem hi, List.getElem?_take, if_pos (by omega)] at this
    unfold RS.us
    rw [List.getD_eq_getElem?_getD, ← this]; rfl
  have hud : ∀ i (h : i < d.length), ((d[i]).val.2 == 0) = decide (k ≤ i) := fun i hi => by rw [hat i hi]; exact (hu i (by omega)).2
  have hcl := fun q => clone_any gx s d (w.drewN q) (hB.drewN q) hk hd
  have hdk : (d.take k).map Sp.val = s.sp.take k := by rw [List.map_take, hd, List.take_take, Nat.min_eq_left hkm]
  have hkl : (d.take k).length = k := by rw [List.length_take]; omega
  have HB : Hid (Blk w gx 42 s.cells) := Lib.hid hB
  have HD : Hid (d.length = s.many ∧ (d.take k).map Sp.val = s.sp.take k ∧ (d.take k).length = k) := Lib.hid ⟨hlen, hdk, hkl⟩
  have HU : Hid (∀ i (h : i < d.length), ((d[i]).val.2 == 0) = decide (k ≤ i)) := Lib.hid hud
  have hmm : (s.many : Int) ≤ 8 := by omega
  have hm0 : (0 : Int) ≤ s.many := by omega
  clear hu hB hd hat hud hk hdk hkl hlen
  obtain ⟨N, hN⟩ : ∃ N, s.many = N := ⟨_, rfl⟩
  have HN : Hid (s.many = N) := Lib.hid hN
  rw [hN] at c0 hcl hmm hm0 hkm hm8 hm1
  clear hN
  go_enter Try.func17, Try.ntmps17
  go_wp2
  go_region_with (go_at_call 20; refine (hcl _).mono ?_; rintro e w1 ⟨g, cap, rfl, hg, hcap, hrow, hb⟩)
  have hg' : w.heap.size ≤ g := hg
  have hb' : RowKit.Below w.heap.size w w1 := ⟨hb.os, hb.tape, hb.output, hb.size, hb.block⟩
  have hdel := delete_any g cap d k w1 hrow (by have := HD.out.1; have := HN.out; omega) (by have := HD.out.1; have := HN.out; omega) (by have := HD.out.1; have := HN.out; omega) HU.out
  rw [HD.out.1.trans HN.out] at hdel
  clear hcl hg hb
  have HB1 := Aside0.mk hb'
  have HG := Aside0.mk hg'
  have HR1 := Aside0.mk hrow
  clear hb' hg' hrow c0
  go_wp2_with fail
  refine hdel.mono ?_
  rintro e w2 ⟨rfl, hrow2, ho2⟩
  clear hdel
  have hlt2 : g < w2.heap.size := hrow2.lt
  have HB2 := Aside0.mk (Only.below HB1.out HB1.out.size HG.out ho2)
  have hsort := sort_any g cap (d.take k) w2 hrow2 (by have := HD.out.2.2; omega)
  rw [HD.out.2.2] at hsort
  clear hrow2 ho2 HB1 HR1
  go_wp2_with fail
  refine hsort.mono ?_
  rintro e w3 ⟨rfl, d', hperm, hpw, hat, ho3⟩
  clear hsort
  have HB3 := Aside0.mk (Only.below HB2.out HB2.out.size HG.out ho3)
  have hlt3 : g < w3.heap.size := Nat.lt_of_lt_of_le hlt2 ho3.size
  have hl' : d'.length = k := hperm.length_eq.trans HD.out.2.2
  have HL := Aside0.mk hl'
  have HA := Aside0.mk hat
  have HP := Aside0.mk hperm
  have HW := Aside0.mk hpw
  clear ho3 HB2 hlt2 hperm hpw hat hl'
  go_wp2_with fail
  go_loopg [4, 6, 22] k (fun gg v4 _ v22 wr => ∃ (i : Nat) (xs : List Int), v22 = .int .i64 i ∧ i ≤ k ∧ k - i ≤ gg ∧ Aside0 (xs = (d'.take i).map (fun x => x.val.1)) ∧ xs.length ≤ i ∧ Aside0 (Kd.R (Kd.int .i64) 3 wr w3.heap.size (fun _ => True) v4 xs) ∧ Aside0 (RowKit.Below w3.heap.size w3 wr))
  case atStart => exact ⟨0, [], rfl, by omega, by omega, ⟨rfl⟩, Nat.le_refl _, ⟨Kd.R_nil _ _ _ _ _⟩, ⟨RowKit.Below.refl _ _⟩⟩
  case round =>
    obtain ⟨i, xs, rfl, hik, hgg, HX, hxl, HO, HB4⟩ := hrel
    have hl2 : i < k ∨ i = k := by omega
    rcases hl2 with hl2 | hl2
    · obtain ⟨cr, cu⟩ := HA.out.below hlt3 HB4.out i (by rw [HL.out]; exact hl2)
      have HX2 := Aside0.mk (show xs ++ [(d'[i]'(by rw [HL.out]; exact hl2)).val.1] = (d'.take (i + 1)).map (fun x => x.val.1) by rw [List.take_succ_eq_append_getElem (by rw [HL.out]; exact hl2), List.map_append, HX.out]; rfl)
      generalize (d'[i]'(by rw [HL.out]; exact hl2)).val.1 = rt at cr HX2
      generalize (d'[i]'(by rw [HL.out]; exact hl2)).val.2 = ut at cu
      clear HX
      have hd1 : decide ((i : Int) < (k : Int)) = true := decide_eq_true (by omega)
      go_upto_region 8 with (fail)
      have BK := Blk.new wr 39 #[.int .i64 rt, .int .i64 ut]
      have HB5 := Aside0.mk (below_alloc HB4.out (.cells #[.int .i64 rt, .int .i64 ut] 39))
      have HO5 := Aside0.mk (Kd.R_alloc HO.out (.cells #[.int .i64 rt, .int .i64 ut] 39))
      generalize wr.alloc (.cells #[.int .i64 rt, .int .i64 ut] 39) = W1 at *
      have b0 : W1.cell? ⟨wr.heap.size, 0, none⟩ = some (.int .i64 rt) := BK.cell 0
      clear BK HO HB4 cr cu
      go_wp2_with ((with_reducible refine gate_builtin (b := .append) (xs := #[.tmp 26, .tmp 29]) rfl ?_); at_builtin; refine Kd.R_append (Kd.int .i64) (w0 := w3) w3.heap.size rfl (.tmp 26) (.tmp 29) 22 3 (.int .i64 0) 8 rfl Try.underlying22 info3 rfl (by decide) (by omega) u4 xs rt [.int .i64 rt] (fun _ => True) (fun _ => False) rfl rfl ?aP (fun _ hk => hk.elim) ?aF ?aO ?aB ?aS ?aL ?_; (case aP => exact rfl); (case aF => exact (fun _ _ => trivial)); (case aO => exact (by (with_reducible repeat (first | apply Kd.R_alloc | apply Kd.R_drewN | apply Kd.R_drew)); exact HO5.out)); (case aB => exact (by (repeat (first | (with_reducible exact HB5.out) | apply below_alloc | apply pw_below_drewN | apply below_drew1)))); (case aS => exact (below_size (by (repeat (first | (with_reducible exact HB5.out) | apply below_alloc | apply pw_below_drewN | apply below_drew1))))); (case aL => omega); intro v111 w6 ho hb6 hg6 hat6; have HO6 := Aside0.mk ho; have HB6 := Aside0.mk hb6; clear ho hb6 hg6 hat6)
      go_roundg (k - (i + 1))
      case measure => omega
      case rel => exact ⟨i + 1, _, by go_num, by omega, Nat.le_refl _, HX2, by simp only [List.length_append, List.length_cons, List.length_nil]; omega, HO6, HB6⟩
    · subst hl2
      go_wp2
      go_ret
      refine ⟨_, d'.map Sp.val, rfl, ?_, ?_, ?_, below_step HB3.out HB4.out⟩
      · rw [← HD.out.2.1]; exact HP.out.map _
      · exact HW.out.map _ (fun _ _ h => by simpa using h)
      · have e : xs = (d'.map Sp.val).map Prod.fst := by
          rw [HX.out, List.take_of_length_le (by rw [HL.out]; exact Nat.le_refl _), List.map_map]; rfl
        rw [← e]
        exact Kd.R_lower HO.out HB3.out.size
end Go.Proofs.Ytbmpclgibimopaa.Walk
