/- Layer 12: ScriptBytes, walked by hand over the contracts of script.Put and Right. -/
import Derived.Test.YtmifcdmkobammaaCommon2
import Derived.Test.YtmifcdmkobammaaBlk
import Derived.Outline
import Derived.Lib.Hide
namespace Go.Proofs.Ytmifcdmkobammaa.Q
open Go.RowKit Go.Proofs.YtmifcdmkobammaaW.PrintWords Go.Proofs.YtmifcdmkobammaaW.PrintLast Go.Proofs.YtmifcdmkobammaaW.PrintMore Go.Proofs.Ytmifcdmkobammaa.ScriptWalk Go.Proofs.Ytmifcdmkobammaa.Parts Go.Proofs.Ytmifcdmkobammaa.Blks
set_option maxHeartbeats 8000000 in
set_option maxRecDepth 100000 in
theorem bytes_no (f0 : Int) (f1 : Bool) (f2 f3 f4 f5 f6 a : Int) (w : World) (hp : script_Put.f 5 [(⟨f0, f1, f2, f3, f4, f5, f6⟩ : S31)] = some []) (hr : script_Right.f f0 f1 f2 f3 f4 f5 f6 = some false) :
    Calls Try.prog 8 #[.agg #[.int .i64 f0, .bool f1, .int .u64 f2, .int .u64 f3, .int .i64 f4, .int .i64 f5, .int .i64 f6], .int .u64 a] w fun e w' => e = .returned (.bool true) ∧ Below w.heap.size w w' := by
  have HP := Aside0.mk hp
  have HRT := Aside0.mk hr
  clear hp hr
  go_enter Try.func8, Try.ntmps8
  go_wp2_with fail
  refine (silhouettelaw12_head.calls true _ rfl).mono ?_
  rintro e w1 ⟨rfl, hb⟩
  have BO := (Blk.new w 31 #[.int .i64 f0, .bool f1, .int .u64 f2, .int .u64 f3, .int .i64 f4, .int .i64 f5, .int .i64 f6]).below_ hb
  have HB1 := Aside0.mk (below_step ((Below.refl w.heap.size w).alloc (Nat.le_refl _) (.cells #[.int .i64 f0, .bool f1, .int .u64 f2, .int .u64 f3, .int .i64 f4, .int .i64 f5, .int .i64 f6] 31)) hb)
  have HBO := Aside0.mk BO
  have b0 : w1.cell? ⟨w.heap.size, 0, none⟩ = some (.int .i64 f0) := BO.cell 0
  have b1 : w1.cell? ⟨w.heap.size, 1, none⟩ = some (.bool f1) := BO.cell 1
  have b2 : w1.cell? ⟨w.heap.size, 2, none⟩ = some (.int .u64 f2) := BO.cell 2
  have b3 : w1.cell? ⟨w.heap.size, 3, none⟩ = some (.int .u64 f3) := BO.cell 3
  have b4 : w1.cell? ⟨w.heap.size, 4, none⟩ = some (.int .i64 f4) := BO.cell 4
  have b5 : w1.cell? ⟨w.heap.size, 5, none⟩ = some (.int .i64 f5) := BO.cell 5
  have b6 : w1.cell? ⟨w.heap.size, 6, none⟩ = some (.int .i64 f6) := BO.cell 6
  clear hb BO
  go_wp2_with ((with_reducible refine gate_dst (N := 13) rfl ?_); refine Kd.R_lit k31 _ 31 ?hg (N := 13) ?hd (xs := [(⟨f0, f1, f2, f3, f4, f5, f6⟩ : S31)]) (inner := [.int .i64 f0, .bool f1, .int .u64 f2, .int .u64 f3, .int .i64 f4, .int .i64 f5, .int .i64 f6]) (ok := fun _ => True) (okp := fun _ => True) ?hr ?hp (fun _ hk => hk) trivial (Below.refl _ _) (Nat.le_refl _) (by simp) ?_; (case hd => rfl); (case hg => rfl); (case hr => first | (go_simp; done) | (go_simp; rfl)); (case hp => exact (Reps.c7 (show Kd.M k31 _ _ _ (⟨f0, f1, f2, f3, f4, f5, f6⟩ : S31) [.int .i64 f0, .bool f1, .int .u64 f2, .int .u64 f3, .int .i64 f4, .int .i64 f5, .int .i64 f6] from (k31_mkM _ _ _ (⟨f0, f1, f2, f3, f4, f5, f6⟩ : S31) )) (Reps.none _ _))); intro v328 w37 ho38 hb hg_ hnew_; clear hg_ hnew_; have HO := Aside0.mk ho38; have HB2 := Aside0.mk (below_step HB1.out hb); have HBO2 := Aside0.mk (HBO.out.below_ hb); clear ho38 hb)
  obtain ⟨A, c, rfl⟩ := Kd.R_slice HO.out
  refine (script_Put.calls 5 A c [⟨f0, f1, f2, f3, f4, f5, f6⟩] [] w37 (Kd.R_reads' HO.out).2.2 (Kd.R_reads' HO.out).2.1 HP.out).mono ?_
  rintro e w40 ⟨v331, rfl, ho0, hb⟩
  have BO := HBO2.out.below_ hb
  have HB3 := Aside0.mk (below_step HB2.out hb)
  obtain ⟨A2, c2, rfl⟩ := Kd.R_slice ho0
  clear ho0 hb HB1 HB2 HBO HBO2 HO
  clear b0 b1 b2 b3 b4 b5 b6
  have b0 : w40.cell? ⟨w.heap.size, 0, none⟩ = some (.int .i64 f0) := BO.cell 0
  have b1 : w40.cell? ⟨w.heap.size, 1, none⟩ = some (.bool f1) := BO.cell 1
  have b2 : w40.cell? ⟨w.heap.size, 2, none⟩ = some (.int .u64 f2) := BO.cell 2
  have b3 : w40.cell? ⟨w.heap.size, 3, none⟩ = some (.int .u64 f3) := BO.cell 3
  have b4 : w40.cell? ⟨w.heap.size, 4, none⟩ = some (.int .i64 f4) := BO.cell 4
  have b5 : w40.cell? ⟨w.heap.size, 5, none⟩ = some (.int .i64 f5) := BO.cell 5
  have b6 : w40.cell? ⟨w.heap.size, 6, none⟩ = some (.int .i64 f6) := BO.cell 6
  clear BO
  rw [List.length_nil]
  go_wp2_with (go_at_call 13; refine (script_Right.calls f0 f1 f2 f3 f4 f5 f6 false _ HRT.out).mono ?_; rintro e w50 ⟨rfl, hb5⟩; have HB5 := Aside0.mk (below_step HB3.out hb5); clear hb5)
  go_ret
  exact ⟨rfl, HB5.out⟩
set_option maxHeartbeats 8000000 in
set_option maxRecDepth 100000 in
theorem bytes_A (f0 : Int) (f1 : Bool) (f2 f3 f4 f5 f6 a : Int) (x : Int) (ps q : List Int) (w : World) (hp : script_Put.f 5 [(⟨f0, f1, f2, f3, f4, f5, f6⟩ : S31)] = some (x :: ps)) (hq : script_Put.f 5 [(⟨f0, f1, a, f3, f4, f5, f6⟩ : S31)] = some q) (hx0 : 0 ≤ x) (hx1 : x < 256) (hmod : x % 128 = f0) (huser : decide (128 ≤ x) = f1) (h3 : decide (f0 ≤ 3) = true) (hlen : q.length = ps.length + 1) (h9 : 9 ≤ ps.length + 1) :
    Calls Try.prog 8 #[.agg #[.int .i64 f0, .bool f1, .int .u64 f2, .int .u64 f3, .int .i64 f4, .int .i64 f5, .int .i64 f6], .int .u64 a] w fun e w' => e = .returned (.bool true) ∧ Below w.heap.size w w' := by
  have HP := Aside0.mk hp
  have HQ := Aside0.mk hq
  have HM := Aside0.mk hmod
  have HU := Aside0.mk huser
  have HX := Aside0.mk (And.intro hx0 hx1)
  clear hp hq hmod huser hx0 hx1
  have H3 := Aside0.mk h3
  have HL := Aside0.mk hlen
  have H9 := Aside0.mk h9
  clear h3 hlen h9
  go_enter Try.func8, Try.ntmps8
  go_wp2_with fail
  refine (silhouettelaw12_head.calls true _ rfl).mono ?_
  rintro e w1 ⟨rfl, hb⟩
  have BO := (Blk.new w 31 #[.int .i64 f0, .bool f1, .int .u64 f2, .int .u64 f3, .int .i64 f4, .int .i64 f5, .int .i64 f6]).below_ hb
  have HB1 := Aside0.mk (below_step ((Below.refl w.heap.size w).alloc (Nat.le_refl _) (.cells #[.int .i64 f0, .bool f1, .int .u64 f2, .int .u64 f3, .int .i64 f4, .int .i64 f5, .int .i64 f6] 31)) hb)
  have HBO := Aside0.mk BO
  have b0 : w1.cell? ⟨w.heap.size, 0, none⟩ = some (.int .i64 f0) := BO.cell 0
  have b1 : w1.cell? ⟨w.heap.size, 1, none⟩ = some (.bool f1) := BO.cell 1
  have b2 : w1.cell? ⟨w.heap.size, 2, none⟩ = some (.int .u64 f2) := BO.cell 2
  have b3 : w1.cell? ⟨w.heap.size, 3, none⟩ = some (.int .u64 f3) := BO.cell 3
  have b4 : w1.cell? ⟨w.heap.size, 4, none⟩ = some (.int .i64 f4) := BO.cell 4
  have b5 : w1.cell? ⟨w.heap.size, 5, none⟩ = some (.int .i64 f5) := BO.cell 5
  have b6 : w1.cell? ⟨w.heap.size, 6, none⟩ = some (.int .i64 f6) := BO.cell 6
  clear hb BO
  go_wp2_with ((with_reducible refine gate_dst (N := 13) rfl ?_); refine Kd.R_lit k31 _ 31 ?hg (N := 13) ?hd (xs := [(⟨f0, f1, f2, f3, f4, f5, f6⟩ : S31)]) (inner := [.int .i64 f0, .bool f1, .int .u64 f2, .int .u64 f3, .int .i64 f4, .int .i64 f5, .int .i64 f6]) (ok := fun _ => True) (okp := fun _ => True) ?hr ?hp (fun _ hk => hk) trivial (Below.refl _ _) (Nat.le_refl _) (by simp) ?_; (case hd => rfl); (case hg => rfl); (case hr => first | (go_simp; done) | (go_simp; rfl)); (case hp => exact (Reps.c7 (show Kd.M k31 _ _ _ (⟨f0, f1, f2, f3, f4, f5, f6⟩ : S31) [.int .i64 f0, .bool f1, .int .u64 f2, .int .u64 f3, .int .i64 f4, .int .i64 f5, .int .i64 f6] from (k31_mkM _ _ _ (⟨f0, f1, f2, f3, f4, f5, f6⟩ : S31) )) (Reps.none _ _))); intro v328 w37 ho38 hb hg_ hnew_; clear hg_ hnew_; have HO := Aside0.mk ho38; have HB2 := Aside0.mk (below_step HB1.out hb); have HBO2 := Aside0.mk (HBO.out.below_ hb); clear ho38 hb)
  obtain ⟨A, c, rfl⟩ := Kd.R_slice HO.out
  refine (script_Put.calls 5 A c [⟨f0, f1, f2, f3, f4, f5, f6⟩] (x :: ps) w37 (Kd.R_reads' HO.out).2.2 (Kd.R_reads' HO.out).2.1 HP.out).mono ?_
  rintro e w40 ⟨v331, rfl, ho0, hb⟩
  have BO := HBO2.out.below_ hb
  have HBO3 := Aside0.mk BO
  have HB3 := Aside0.mk (below_step HB2.out hb)
  obtain ⟨A2, c2, rfl⟩ := Kd.R_slice ho0
  obtain ⟨ad, rfl, hcx⟩ := Kd.at_int (Kd.R_reads' ho0).2.2 0 (by omega) (by simp only [List.length_cons]; omega)
  have hx0 : w40.cell? ad = some (.int .u8 x) := hcx
  have hadl : ad.block < w40.heap.size := World.block_lt_of_cell? w40 ad hx0
  clear ho0 hb HB1 HB2 HBO HBO2 HO hcx
  clear b0 b1 b2 b3 b4 b5 b6
  have b0 : w40.cell? ⟨w.heap.size, 0, none⟩ = some (.int .i64 f0) := BO.cell 0
  have b1 : w40.cell? ⟨w.heap.size, 1, none⟩ = some (.bool f1) := BO.cell 1
  have b2 : w40.cell? ⟨w.heap.size, 2, none⟩ = some (.int .u64 f2) := BO.cell 2
  have b3 : w40.cell? ⟨w.heap.size, 3, none⟩ = some (.int .u64 f3) := BO.cell 3
  have b4 : w40.cell? ⟨w.heap.size, 4, none⟩ = some (.int .i64 f4) := BO.cell 4
  have b5 : w40.cell? ⟨w.heap.size, 5, none⟩ = some (.int .i64 f5) := BO.cell 5
  have b6 : w40.cell? ⟨w.heap.size, 6, none⟩ = some (.int .i64 f6) := BO.cell 6
  clear BO
  rw [List.length_cons]
  have hl1 : ((ps.length : Int) + 1 == 0) = false := beq_eq_false_iff_ne.2 (by omega)
  go_upto_region 7 with (fail)
  have NB := Blk.new w40 31 #[.int .i64 f0, .bool f1, .int .u64 a, .int .u64 f3, .int .i64 f4, .int .i64 f5, .int .i64 f6]
  have HBO4 := Aside0.mk (HBO3.out.alloc (.cells #[.int .i64 f0, .bool f1, .int .u64 a, .int .u64 f3, .int .i64 f4, .int .i64 f5, .int .i64 f6] 31))
  have HB4 := Aside0.mk (HB3.out.alloc HB3.out.size (.cells #[.int .i64 f0, .bool f1, .int .u64 a, .int .u64 f3, .int .i64 f4, .int .i64 f5, .int .i64 f6] 31))
  have hx1 : (w40.alloc (.cells #[.int .i64 f0, .bool f1, .int .u64 a, .int .u64 f3, .int .i64 f4, .int .i64 f5, .int .i64 f6] 31)).cell? ad = some (.int .u8 x) := (((Below.refl w40.heap.size w40).alloc (Nat.le_refl _) _).cell hadl).trans hx0
  have hadl1 : ad.block < (w40.alloc (.cells #[.int .i64 f0, .bool f1, .int .u64 a, .int .u64 f3, .int .i64 f4, .int .i64 f5, .int .i64 f6] 31)).heap.size := by simp; omega
  generalize w40.alloc (.cells #[.int .i64 f0, .bool f1, .int .u64 a, .int .u64 f3, .int .i64 f4, .int .i64 f5, .int .i64 f6] 31) = W7 at *
  clear b0 b1 b2 b3 b4 b5 b6 hx0 hadl HBO3 HB3
  have b0 : W7.cell? ⟨w40.heap.size, 0, none⟩ = some (.int .i64 f0) := NB.cell 0
  have b1 : W7.cell? ⟨w40.heap.size, 1, none⟩ = some (.bool f1) := NB.cell 1
  have b2 : W7.cell? ⟨w40.heap.size, 2, none⟩ = some (.int .u64 a) := NB.cell 2
  have b3 : W7.cell? ⟨w40.heap.size, 3, none⟩ = some (.int .u64 f3) := NB.cell 3
  have b4 : W7.cell? ⟨w40.heap.size, 4, none⟩ = some (.int .i64 f4) := NB.cell 4
  have b5 : W7.cell? ⟨w40.heap.size, 5, none⟩ = some (.int .i64 f5) := NB.cell 5
  have b6 : W7.cell? ⟨w40.heap.size, 6, none⟩ = some (.int .i64 f6) := NB.cell 6
  clear NB
  go_wp2_with ((with_reducible refine gate_dst (N := 28) rfl ?_); refine Kd.R_lit k31 _ 31 ?hg (N := 28) ?hd (xs := [(⟨f0, f1, a, f3, f4, f5, f6⟩ : S31)]) (inner := [.int .i64 f0, .bool f1, .int .u64 a, .int .u64 f3, .int .i64 f4, .int .i64 f5, .int .i64 f6]) (ok := fun _ => True) (okp := fun _ => True) ?hr ?hp (fun _ hk => hk) trivial (Below.refl _ _) (Nat.le_refl _) (by simp) ?_; (case hd => rfl); (case hg => rfl); (case hr => first | (go_simp; done) | (go_simp; rfl)); (case hp => exact (Reps.c7 (show Kd.M k31 _ _ _ (⟨f0, f1, a, f3, f4, f5, f6⟩ : S31) [.int .i64 f0, .bool f1, .int .u64 a, .int .u64 f3, .int .i64 f4, .int .i64 f5, .int .i64 f6] from (k31_mkM _ _ _ (⟨f0, f1, a, f3, f4, f5, f6⟩ : S31) )) (Reps.none _ _))); intro v336 w50 ho50 hb50 hg_ hnew_; clear hg_ hnew_; have HO5 := Aside0.mk ho50; have HB5 := Aside0.mk (below_step HB4.out hb50); have HBO5 := Aside0.mk (HBO4.out.below_ hb50); have HX5 := Aside0.mk ((hb50.cell hadl1).trans hx1); have HAD := Aside0.mk (Nat.lt_of_lt_of_le hadl1 hb50.size); clear ho50 hb50)
  obtain ⟨A3, c3, rfl⟩ := Kd.R_slice HO5.out
  refine (script_Put.calls 5 A3 c3 [⟨f0, f1, a, f3, f4, f5, f6⟩] q w50 (Kd.R_reads' HO5.out).2.2 (Kd.R_reads' HO5.out).2.1 HQ.out).mono ?_
  rintro e w60 ⟨v340, rfl, ho0, hb⟩
  obtain ⟨A4, c4, rfl⟩ := Kd.R_slice ho0
  have BO := HBO5.out.below_ hb
  have HB6 := Aside0.mk (below_step HB5.out hb)
  have hx6 : w60.cell? ad = some (.int .u8 x) := (hb.cell HAD.out).trans HX5.out
  clear ho0 hb HB4 HB5 HBO4 HBO5 HO5 HX5 HAD hx1 hadl1
  clear b0 b1 b2 b3 b4 b5 b6
  have b0 : w60.cell? ⟨w.heap.size, 0, none⟩ = some (.int .i64 f0) := BO.cell 0
  have b1 : w60.cell? ⟨w.heap.size, 1, none⟩ = some (.bool f1) := BO.cell 1
  clear BO
  have h3 := H3.out
  go_upto_region 10 with (fail)
  obtain ⟨hx0, hx1⟩ := HX.out
  have hu := HU.out
  have hu2 : (decide (128 ≤ x) == f1) = true := by rw [hu]; simp
  have hm2 : (x % 128 == f0) = true := by rw [HM.out]; simp
  have hm3 : wrap64 (x % 128) = x % 128 := by rw [w64' (by omega) (by omega)]
  clear hu
  have e1 : ((q.length : Int) == (ps.length : Int) + 1) = true := by rw [HL.out]; simp
  have e2 : decide (9 ≤ (ps.length : Int) + 1) = true := decide_eq_true (by have := H9.out; omega)
  go_quiet (fail)
  go_wp2
  go_ret
  exact ⟨rfl, below_drewN HB6.out _⟩
set_option maxHeartbeats 8000000 in
set_option maxRecDepth 100000 in
theorem bytes_B (f0 : Int) (f1 : Bool) (f2 f3 f4 f5 f6 a : Int) (x : Int) (ps q : List Int) (w : World) (hp : script_Put.f 5 [(⟨f0, f1, f2, f3, f4, f5, f6⟩ : S31)] = some (x :: ps)) (hq : script_Put.f 5 [(⟨f0, f1, a, f3, f4, f5, f6⟩ : S31)] = some q) (hx0 : 0 ≤ x) (hx1 : x < 256) (hmod : x % 128 = f0) (huser : decide (128 ≤ x) = f1) (h3 : decide (f0 ≤ 3) = false) (h7 : (f0 == 7) = true) (hlen : q.length = ps.length + 1) (h9 : 9 ≤ ps.length + 1) :
    Calls Try.prog 8 #[.agg #[.int .i64 f0, .bool f1, .int .u64 f2, .int .u64 f3, .int .i64 f4, .int .i64 f5, .int .i64 f6], .int .u64 a] w fun e w' => e = .returned (.bool true) ∧ Below w.heap.size w w' := by
  have HP := Aside0.mk hp
  have HQ := Aside0.mk hq
  have HM := Aside0.mk hmod
  have HU := Aside0.mk huser
  have HX := Aside0.mk (And.intro hx0 hx1)
  clear hp hq hmod huser hx0 hx1
  have H3 := Aside0.mk (And.intro h3 h7)
  have HL := Aside0.mk hlen
  have H9 := Aside0.mk h9
  clear h3 h7 hlen h9
  go_enter Try.func8, Try.ntmps8
  go_wp2_with fail
  refine (silhouettelaw12_head.calls true _ rfl).mono ?_
  rintro e w1 ⟨rfl, hb⟩
  have BO := (Blk.new w 31 #[.int .i64 f0, .bool f1, .int .u64 f2, .int .u64 f3, .int .i64 f4, .int .i64 f5, .int .i64 f6]).below_ hb
  have HB1 := Aside0.mk (below_step ((Below.refl w.heap.size w).alloc (Nat.le_refl _) (.cells #[.int .i64 f0, .bool f1, .int .u64 f2, .int .u64 f3, .int .i64 f4, .int .i64 f5, .int .i64 f6] 31)) hb)
  have HBO := Aside0.mk BO
  have b0 : w1.cell? ⟨w.heap.size, 0, none⟩ = some (.int .i64 f0) := BO.cell 0
  have b1 : w1.cell? ⟨w.heap.size, 1, none⟩ = some (.bool f1) := BO.cell 1
  have b2 : w1.cell? ⟨w.heap.size, 2, none⟩ = some (.int .u64 f2) := BO.cell 2
  have b3 : w1.cell? ⟨w.heap.size, 3, none⟩ = some (.int .u64 f3) := BO.cell 3
  have b4 : w1.cell? ⟨w.heap.size, 4, none⟩ = some (.int .i64 f4) := BO.cell 4
  have b5 : w1.cell? ⟨w.heap.size, 5, none⟩ = some (.int .i64 f5) := BO.cell 5
  have b6 : w1.cell? ⟨w.heap.size, 6, none⟩ = some (.int .i64 f6) := BO.cell 6
  clear hb BO
  go_wp2_with ((with_reducible refine gate_dst (N := 13) rfl ?_); refine Kd.R_lit k31 _ 31 ?hg (N := 13) ?hd (xs := [(⟨f0, f1, f2, f3, f4, f5, f6⟩ : S31)]) (inner := [.int .i64 f0, .bool f1, .int .u64 f2, .int .u64 f3, .int .i64 f4, .int .i64 f5, .int .i64 f6]) (ok := fun _ => True) (okp := fun _ => True) ?hr ?hp (fun _ hk => hk) trivial (Below.refl _ _) (Nat.le_refl _) (by simp) ?_; (case hd => rfl); (case hg => rfl); (case hr => first | (go_simp; done) | (go_simp; rfl)); (case hp => exact (Reps.c7 (show Kd.M k31 _ _ _ (⟨f0, f1, f2, f3, f4, f5, f6⟩ : S31) [.int .i64 f0, .bool f1, .int .u64 f2, .int .u64 f3, .int .i64 f4, .int .i64 f5, .int .i64 f6] from (k31_mkM _ _ _ (⟨f0, f1, f2, f3, f4, f5, f6⟩ : S31) )) (Reps.none _ _))); intro v328 w37 ho38 hb hg_ hnew_; clear hg_ hnew_; have HO := Aside0.mk ho38; have HB2 := Aside0.mk (below_step HB1.out hb); have HBO2 := Aside0.mk (HBO.out.below_ hb); clear ho38 hb)
  obtain ⟨A, c, rfl⟩ := Kd.R_slice HO.out
  refine (script_Put.calls 5 A c [⟨f0, f1, f2, f3, f4, f5, f6⟩] (x :: ps) w37 (Kd.R_reads' HO.out).2.2 (Kd.R_reads' HO.out).2.1 HP.out).mono ?_
  rintro e w40 ⟨v331, rfl, ho0, hb⟩
  have BO := HBO2.out.below_ hb
  have HBO3 := Aside0.mk BO
  have HB3 := Aside0.mk (below_step HB2.out hb)
  obtain ⟨A2, c2, rfl⟩ := Kd.R_slice ho0
  obtain ⟨ad, rfl, hcx⟩ := Kd.at_int (Kd.R_reads' ho0).2.2 0 (by omega) (by simp only [List.length_cons]; omega)
  have hx0 : w40.cell? ad = some (.int .u8 x) := hcx
  have hadl : ad.block < w40.heap.size := World.block_lt_of_cell? w40 ad hx0
  clear ho0 hb HB1 HB2 HBO HBO2 HO hcx
  clear b0 b1 b2 b3 b4 b5 b6
  have b0 : w40.cell? ⟨w.heap.size, 0, none⟩ = some (.int .i64 f0) := BO.cell 0
  have b1 : w40.cell? ⟨w.heap.size, 1, none⟩ = some (.bool f1) := BO.cell 1
  have b2 : w40.cell? ⟨w.heap.size, 2, none⟩ = some (.int .u64 f2) := BO.cell 2
  have b3 : w40.cell? ⟨w.heap.size, 3, none⟩ = some (.int .u64 f3) := BO.cell 3
  have b4 : w40.cell? ⟨w.heap.size, 4, none⟩ = some (.int .i64 f4) := BO.cell 4
  have b5 : w40.cell? ⟨w.heap.size, 5, none⟩ = some (.int .i64 f5) := BO.cell 5
  have b6 : w40.cell? ⟨w.heap.size, 6, none⟩ = some (.int .i64 f6) := BO.cell 6
  clear BO
  rw [List.length_cons]
  have hl1 : ((ps.length : Int) + 1 == 0) = false := beq_eq_false_iff_ne.2 (by omega)
  go_upto_region 7 with (fail)
  have NB := Blk.new w40 31 #[.int .i64 f0, .bool f1, .int .u64 a, .int .u64 f3, .int .i64 f4, .int .i64 f5, .int .i64 f6]
  have HBO4 := Aside0.mk (HBO3.out.alloc (.cells #[.int .i64 f0, .bool f1, .int .u64 a, .int .u64 f3, .int .i64 f4, .int .i64 f5, .int .i64 f6] 31))
  have HB4 := Aside0.mk (HB3.out.alloc HB3.out.size (.cells #[.int .i64 f0, .bool f1, .int .u64 a, .int .u64 f3, .int .i64 f4, .int .i64 f5, .int .i64 f6] 31))
  have hx1 : (w40.alloc (.cells #[.int .i64 f0, .bool f1, .int .u64 a, .int .u64 f3, .int .i64 f4, .int .i64 f5, .int .i64 f6] 31)).cell? ad = some (.int .u8 x) := (((Below.refl w40.heap.size w40).alloc (Nat.le_refl _) _).cell hadl).trans hx0
  have hadl1 : ad.block < (w40.alloc (.cells #[.int .i64 f0, .bool f1, .int .u64 a, .int .u64 f3, .int .i64 f4, .int .i64 f5, .int .i64 f6] 31)).heap.size := by simp; omega
  generalize w40.alloc (.cells #[.int .i64 f0, .bool f1, .int .u64 a, .int .u64 f3, .int .i64 f4, .int .i64 f5, .int .i64 f6] 31) = W7 at *
  clear b0 b1 b2 b3 b4 b5 b6 hx0 hadl HBO3 HB3
  have b0 : W7.cell? ⟨w40.heap.size, 0, none⟩ = some (.int .i64 f0) := NB.cell 0
  have b1 : W7.cell? ⟨w40.heap.size, 1, none⟩ = some (.bool f1) := NB.cell 1
  have b2 : W7.cell? ⟨w40.heap.size, 2, none⟩ = some (.int .u64 a) := NB.cell 2
  have b3 : W7.cell? ⟨w40.heap.size, 3, none⟩ = some (.int .u64 f3) := NB.cell 3
  have b4 : W7.cell? ⟨w40.heap.size, 4, none⟩ = some (.int .i64 f4) := NB.cell 4
  have b5 : W7.cell? ⟨w40.heap.size, 5, none⟩ = some (.int .i64 f5) := NB.cell 5
  have b6 : W7.cell? ⟨w40.heap.size, 6, none⟩ = some (.int .i64 f6) := NB.cell 6
  clear NB
  go_wp2_with ((with_reducible refine gate_dst (N := 28) rfl ?_); refine Kd.R_lit k31 _ 31 ?hg (N := 28) ?hd (xs := [(⟨f0, f1, a, f3, f4, f5, f6⟩ : S31)]) (inner := [.int .i64 f0, .bool f1, .int .u64 a, .int .u64 f3, .int .i64 f4, .int .i64 f5, .int .i64 f6]) (ok := fun _ => True) (okp := fun _ => True) ?hr ?hp (fun _ hk => hk) trivial (Below.refl _ _) (Nat.le_refl _) (by simp) ?_; (case hd => rfl); (case hg => rfl); (case hr => first | (go_simp; done) | (go_simp; rfl)); (case hp => exact (Reps.c7 (show Kd.M k31 _ _ _ (⟨f0, f1, a, f3, f4, f5, f6⟩ : S31) [.int .i64 f0, .bool f1, .int .u64 a, .int .u64 f3, .int .i64 f4, .int .i64 f5, .int .i64 f6] from (k31_mkM _ _ _ (⟨f0, f1, a, f3, f4, f5, f6⟩ : S31) )) (Reps.none _ _))); intro v336 w50 ho50 hb50 hg_ hnew_; clear hg_ hnew_; have HO5 := Aside0.mk ho50; have HB5 := Aside0.mk (below_step HB4.out hb50); have HBO5 := Aside0.mk (HBO4.out.below_ hb50); have HX5 := Aside0.mk ((hb50.cell hadl1).trans hx1); have HAD := Aside0.mk (Nat.lt_of_lt_of_le hadl1 hb50.size); clear ho50 hb50)
  obtain ⟨A3, c3, rfl⟩ := Kd.R_slice HO5.out
  refine (script_Put.calls 5 A3 c3 [⟨f0, f1, a, f3, f4, f5, f6⟩] q w50 (Kd.R_reads' HO5.out).2.2 (Kd.R_reads' HO5.out).2.1 HQ.out).mono ?_
  rintro e w60 ⟨v340, rfl, ho0, hb⟩
  obtain ⟨A4, c4, rfl⟩ := Kd.R_slice ho0
  have BO := HBO5.out.below_ hb
  have HB6 := Aside0.mk (below_step HB5.out hb)
  have hx6 : w60.cell? ad = some (.int .u8 x) := (hb.cell HAD.out).trans HX5.out
  clear ho0 hb HB4 HB5 HBO4 HBO5 HO5 HX5 HAD hx1 hadl1
  clear b0 b1 b2 b3 b4 b5 b6
  have b0 : w60.cell? ⟨w.heap.size, 0, none⟩ = some (.int .i64 f0) := BO.cell 0
  have b1 : w60.cell? ⟨w.heap.size, 1, none⟩ = some (.bool f1) := BO.cell 1
  clear BO
  obtain ⟨h3, h7⟩ := H3.out
  go_upto_region 10 with (fail)
  obtain ⟨hx0, hx1⟩ := HX.out
  have hu := HU.out
  have hu2 : (decide (128 ≤ x) == f1) = true := by rw [hu]; simp
  have hm2 : (x % 128 == f0) = true := by rw [HM.out]; simp
  have hm3 : wrap64 (x % 128) = x % 128 := by rw [w64' (by omega) (by omega)]
  clear hu
  have e1 : ((q.length : Int) == (ps.length : Int) + 1) = true := by rw [HL.out]; simp
  have e2 : decide (9 ≤ (ps.length : Int) + 1) = true := decide_eq_true (by have := H9.out; omega)
  go_quiet (fail)
  go_wp2
  go_ret
  exact ⟨rfl, below_drewN HB6.out _⟩
set_option maxHeartbeats 8000000 in
set_option maxRecDepth 100000 in
theorem bytes_C (f0 : Int) (f1 : Bool) (f2 f3 f4 f5 f6 a : Int) (x : Int) (ps q : List Int) (w : World) (hp : script_Put.f 5 [(⟨f0, f1, f2, f3, f4, f5, f6⟩ : S31)] = some (x :: ps)) (hq : script_Put.f 5 [(⟨f0, f1, a, f3, f4, f5, f6⟩ : S31)] = some q) (hx0 : 0 ≤ x) (hx1 : x < 256) (hmod : x % 128 = f0) (huser : decide (128 ≤ x) = f1) (h3 : decide (f0 ≤ 3) = false) (h7 : (f0 == 7) = false) (hz : (a == 0) = decide (0 < q.length)) :
    Calls Try.prog 8 #[.agg #[.int .i64 f0, .bool f1, .int .u64 f2, .int .u64 f3, .int .i64 f4, .int .i64 f5, .int .i64 f6], .int .u64 a] w fun e w' => e = .returned (.bool true) ∧ Below w.heap.size w w' := by
  have HP := Aside0.mk hp
  have HQ := Aside0.mk hq
  have HM := Aside0.mk hmod
  have HU := Aside0.mk huser
  have HX := Aside0.mk (And.intro hx0 hx1)
  clear hp hq hmod huser hx0 hx1
  have H3 := Aside0.mk (And.intro h3 h7)
  have HZ := Aside0.mk hz
  clear h3 h7 hz
  go_enter Try.func8, Try.ntmps8
  go_wp2_with fail
  refine (silhouettelaw12_head.calls true _ rfl).mono ?_
  rintro e w1 ⟨rfl, hb⟩
  have BO := (Blk.new w 31 #[.int .i64 f0, .bool f1, .int .u64 f2, .int .u64 f3, .int .i64 f4, .int .i64 f5, .int .i64 f6]).below_ hb
  have HB1 := Aside0.mk (below_step ((Below.refl w.heap.size w).alloc (Nat.le_refl _) (.cells #[.int .i64 f0, .bool f1, .int .u64 f2, .int .u64 f3, .int .i64 f4, .int .i64 f5, .int .i64 f6] 31)) hb)
  have HBO := Aside0.mk BO
  have b0 : w1.cell? ⟨w.heap.size, 0, none⟩ = some (.int .i64 f0) := BO.cell 0
  have b1 : w1.cell? ⟨w.heap.size, 1, none⟩ = some (.bool f1) := BO.cell 1
  have b2 : w1.cell? ⟨w.heap.size, 2, none⟩ = some (.int .u64 f2) := BO.cell 2
  have b3 : w1.cell? ⟨w.heap.size, 3, none⟩ = some (.int .u64 f3) := BO.cell 3
  have b4 : w1.cell? ⟨w.heap.size, 4, none⟩ = some (.int .i64 f4) := BO.cell 4
  have b5 : w1.cell? ⟨w.heap.size, 5, none⟩ = some (.int .i64 f5) := BO.cell 5
  have b6 : w1.cell? ⟨w.heap.size, 6, none⟩ = some (.int .i64 f6) := BO.cell 6
  clear hb BO
  go_wp2_with ((with_reducible refine gate_dst (N := 13) rfl ?_); refine Kd.R_lit k31 _ 31 ?hg (N := 13) ?hd (xs := [(⟨f0, f1, f2, f3, f4, f5, f6⟩ : S31)]) (inner := [.int .i64 f0, .bool f1, .int .u64 f2, .int .u64 f3, .int .i64 f4, .int .i64 f5, .int .i64 f6]) (ok := fun _ => True) (okp := fun _ => True) ?hr ?hp (fun _ hk => hk) trivial (Below.refl _ _) (Nat.le_refl _) (by simp) ?_; (case hd => rfl); (case hg => rfl); (case hr => first | (go_simp; done) | (go_simp; rfl)); (case hp => exact (Reps.c7 (show Kd.M k31 _ _ _ (⟨f0, f1, f2, f3, f4, f5, f6⟩ : S31) [.int .i64 f0, .bool f1, .int .u64 f2, .int .u64 f3, .int .i64 f4, .int .i64 f5, .int .i64 f6] from (k31_mkM _ _ _ (⟨f0, f1, f2, f3, f4, f5, f6⟩ : S31) )) (Reps.none _ _))); intro v328 w37 ho38 hb hg_ hnew_; clear hg_ hnew_; have HO := Aside0.mk ho38; have HB2 := Aside0.mk (below_step HB1.out hb); have HBO2 := Aside0.mk (HBO.out.below_ hb); clear ho38 hb)
  obtain ⟨A, c, rfl⟩ := Kd.R_slice HO.out
  refine (script_Put.calls 5 A c [⟨f0, f1, f2, f3, f4, f5, f6⟩] (x :: ps) w37 (Kd.R_reads' HO.out).2.2 (Kd.R_reads' HO.out).2.1 HP.out).mono ?_
  rintro e w40 ⟨v331, rfl, ho0, hb⟩
  have BO := HBO2.out.below_ hb
  have HBO3 := Aside0.mk BO
  have HB3 := Aside0.mk (below_step HB2.out hb)
  obtain ⟨A2, c2, rfl⟩ := Kd.R_slice ho0
  obtain ⟨ad, rfl, hcx⟩ := Kd.at_int (Kd.R_reads' ho0).2.2 0 (by omega) (by simp only [List.length_cons]; omega)
  have hx0 : w40.cell? ad = some (.int .u8 x) := hcx
  have hadl : ad.block < w40.heap.size := World.block_lt_of_cell? w40 ad hx0
  clear ho0 hb HB1 HB2 HBO HBO2 HO hcx
  clear b0 b1 b2 b3 b4 b5 b6
  have b0 : w40.cell? ⟨w.heap.size, 0, none⟩ = some (.int .i64 f0) := BO.cell 0
  have b1 : w40.cell? ⟨w.heap.size, 1, none⟩ = some (.bool f1) := BO.cell 1
  have b2 : w40.cell? ⟨w.heap.size, 2, none⟩ = some (.int .u64 f2) := BO.cell 2
  have b3 : w40.cell? ⟨w.heap.size, 3, none⟩ = some (.int .u64 f3) := BO.cell 3
  have b4 : w40.cell? ⟨w.heap.size, 4, none⟩ = some (.int .i64 f4) := BO.cell 4
  have b5 : w40.cell? ⟨w.heap.size, 5, none⟩ = some (.int .i64 f5) := BO.cell 5
  have b6 : w40.cell? ⟨w.heap.size, 6, none⟩ = some (.int .i64 f6) := BO.cell 6
  clear BO
  rw [List.length_cons]
  have hl1 : ((ps.length : Int) + 1 == 0) = false := beq_eq_false_iff_ne.2 (by omega)
  go_upto_region 7 with (fail)
  have NB := Blk.new w40 31 #[.int .i64 f0, .bool f1, .int .u64 a, .int .u64 f3, .int .i64 f4, .int .i64 f5, .int .i64 f6]
  have HBO4 := Aside0.mk (HBO3.out.alloc (.cells #[.int .i64 f0, .bool f1, .int .u64 a, .int .u64 f3, .int .i64 f4, .int .i64 f5, .int .i64 f6] 31))
  have HB4 := Aside0.mk (HB3.out.alloc HB3.out.size (.cells #[.int .i64 f0, .bool f1, .int .u64 a, .int .u64 f3, .int .i64 f4, .int .i64 f5, .int .i64 f6] 31))
  have hx1 : (w40.alloc (.cells #[.int .i64 f0, .bool f1, .int .u64 a, .int .u64 f3, .int .i64 f4, .int .i64 f5, .int .i64 f6] 31)).cell? ad = some (.int .u8 x) := (((Below.refl w40.heap.size w40).alloc (Nat.le_refl _) _).cell hadl).trans hx0
  have hadl1 : ad.block < (w40.alloc (.cells #[.int .i64 f0, .bool f1, .int .u64 a, .int .u64 f3, .int .i64 f4, .int .i64 f5, .int .i64 f6] 31)).heap.size := by simp; omega
  generalize w40.alloc (.cells #[.int .i64 f0, .bool f1, .int .u64 a, .int .u64 f3, .int .i64 f4, .int .i64 f5, .int .i64 f6] 31) = W7 at *
  clear b0 b1 b2 b3 b4 b5 b6 hx0 hadl HBO3 HB3
  have b0 : W7.cell? ⟨w40.heap.size, 0, none⟩ = some (.int .i64 f0) := NB.cell 0
  have b1 : W7.cell? ⟨w40.heap.size, 1, none⟩ = some (.bool f1) := NB.cell 1
  have b2 : W7.cell? ⟨w40.heap.size, 2, none⟩ = some (.int .u64 a) := NB.cell 2
  have b3 : W7.cell? ⟨w40.heap.size, 3, none⟩ = some (.int .u64 f3) := NB.cell 3
  have b4 : W7.cell? ⟨w40.heap.size, 4, none⟩ = some (.int .i64 f4) := NB.cell 4
  have b5 : W7.cell? ⟨w40.heap.size, 5, none⟩ = some (.int .i64 f5) := NB.cell 5
  have b6 : W7.cell? ⟨w40.heap.size, 6, none⟩ = some (.int .i64 f6) := NB.cell 6
  clear NB
  go_wp2_with ((with_reducible refine gate_dst (N := 28) rfl ?_); refine Kd.R_lit k31 _ 31 ?hg (N := 28) ?hd (xs := [(⟨f0, f1, a, f3, f4, f5, f6⟩ : S31)]) (inner := [.int .i64 f0, .bool f1, .int .u64 a, .int .u64 f3, .int .i64 f4, .int .i64 f5, .int .i64 f6]) (ok := fun _ => True) (okp := fun _ => True) ?hr ?hp (fun _ hk => hk) trivial (Below.refl _ _) (Nat.le_refl _) (by simp) ?_; (case hd => rfl); (case hg => rfl); (case hr => first | (go_simp; done) | (go_simp; rfl)); (case hp => exact (Reps.c7 (show Kd.M k31 _ _ _ (⟨f0, f1, a, f3, f4, f5, f6⟩ : S31) [.int .i64 f0, .bool f1, .int .u64 a, .int .u64 f3, .int .i64 f4, .int .i64 f5, .int .i64 f6] from (k31_mkM _ _ _ (⟨f0, f1, a, f3, f4, f5, f6⟩ : S31) )) (Reps.none _ _))); intro v336 w50 ho50 hb50 hg_ hnew_; clear hg_ hnew_; have HO5 := Aside0.mk ho50; have HB5 := Aside0.mk (below_step HB4.out hb50); have HBO5 := Aside0.mk (HBO4.out.below_ hb50); have HX5 := Aside0.mk ((hb50.cell hadl1).trans hx1); have HAD := Aside0.mk (Nat.lt_of_lt_of_le hadl1 hb50.size); clear ho50 hb50)
  obtain ⟨A3, c3, rfl⟩ := Kd.R_slice HO5.out
  refine (script_Put.calls 5 A3 c3 [⟨f0, f1, a, f3, f4, f5, f6⟩] q w50 (Kd.R_reads' HO5.out).2.2 (Kd.R_reads' HO5.out).2.1 HQ.out).mono ?_
  rintro e w60 ⟨v340, rfl, ho0, hb⟩
  obtain ⟨A4, c4, rfl⟩ := Kd.R_slice ho0
  have BO := HBO5.out.below_ hb
  have HB6 := Aside0.mk (below_step HB5.out hb)
  have hx6 : w60.cell? ad = some (.int .u8 x) := (hb.cell HAD.out).trans HX5.out
  clear ho0 hb HB4 HB5 HBO4 HBO5 HO5 HX5 HAD hx1 hadl1
  clear b0 b1 b2 b3 b4 b5 b6
  have b0 : w60.cell? ⟨w.heap.size, 0, none⟩ = some (.int .i64 f0) := BO.cell 0
  have b1 : w60.cell? ⟨w.heap.size, 1, none⟩ = some (.bool f1) := BO.cell 1
  clear BO
  obtain ⟨h3, h7⟩ := H3.out
  go_upto_region 10 with (fail)
  obtain ⟨hx0, hx1⟩ := HX.out
  have hu := HU.out
  have hu2 : (decide (128 ≤ x) == f1) = true := by rw [hu]; simp
  have hm2 : (x % 128 == f0) = true := by rw [HM.out]; simp
  have hm3 : wrap64 (x % 128) = x % 128 := by rw [w64' (by omega) (by omega)]
  clear hu
  have e1 : ((a == 0) == decide (0 < (q.length : Int))) = true := by rw [HZ.out]; simp
  have e2 : ((a == 0) == decide (0 < q.length)) = true := by rw [HZ.out]; simp
  go_quiet (fail)
  go_wp2
  go_ret
  exact ⟨rfl, below_drewN HB6.out _⟩
end Go.Proofs.Ytmifcdmkobammaa.Q
