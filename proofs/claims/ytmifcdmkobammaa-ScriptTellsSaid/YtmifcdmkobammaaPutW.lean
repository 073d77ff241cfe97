/- Layer 12: script.put, walked; for every operation. -/
import Derived.Test.YtmifcdmkobammaaPutB
import Derived.Outline
import Derived.RegionTactic
import Derived.Deep.DeepCutAuto
import Derived.Deep.LoopGhost
namespace Go.Proofs.Ytmifcdmkobammaa.ScriptWalk
open Go.RowKit Go.Proofs.Ytmifcdmkobammaa.Parts Go.Proofs.Ytmifcdmkobammaa.Blks Go.Proofs.YtmifcdmkobammaaW.PrintWords Go.Proofs.YtmifcdmkobammaaW.PrintLast Go.Proofs.YtmifcdmkobammaaW.PrintMore
set_option maxHeartbeats 8000000 in
set_option maxRecDepth 100000 in
theorem put_no (P0_ : Nat → Prop) (u9000_ : Value) (l0 : List Int) (k : Int) (a v g i n : Int) (w0 w : World) (hB : Below w0.heap.size w0 w) (ho0 : Kd.R (Kd.int .u8) 5 w w0.heap.size P0_ u9000_ l0) (hl : l0.length + 10000 < 140737488355328) :
    Calls Try.prog 25 #[u9000_, .agg #[.int .i64 k, .bool false, .int .u64 a, .int .u64 v, .int .i64 g, .int .i64 i, .int .i64 n]] w fun e w' => ∃ v0_ : Value, e = .returned (v0_) ∧ Kd.R (Kd.int .u8) 5 w' w0.heap.size (fun k_ => (P0_ k_ ∨ w.heap.size ≤ k_)) v0_ (l0 ++ (k % 256) :: wroteAll a v g i n (letters k)) ∧ Below w0.heap.size w0 w' ∧ Kept w w' (fun k_ => P0_ k_) := by
  go_enter Try.func25, Try.ntmps25
  go_wp2_with (first | ((with_reducible refine gate_dst (N := 3) rfl ?_); refine box_event ?hg (N := 3) ?hd (cs := #[.int .i64 k, .bool false, .int .u64 a, .int .u64 v, .int .i64 g, .int .i64 i, .int .i64 n]) (t := 31) ?hr ?_; (case hd => rfl); (case hg => rfl); (case hr => first | (go_simp; done) | (go_simp; rfl)); intro gb hg w6 hbox hb; have PA := Pa.start' hB ho0 hbox hb hg; clear hbox hb hg hB ho0; have c0 : w6.cell? ⟨gb, 0, none⟩ = some (.int .i64 k) := PA.box.cell 0; have c1 : w6.cell? ⟨gb, 1, none⟩ = some (.bool false) := PA.box.cell 1) | ((with_reducible refine gate_builtin (b := .append) (xs := #[.tmp 18, .tmp 20]) rfl ?_); at_builtin; refine Kd.R_append (Kd.int .u8) (w0 := w0) w0.heap.size rfl (.tmp 18) (.tmp 20) 23 5 (.int .u8 0) 1 rfl Try.underlying23 info5 rfl (by decide) (by omega) u9000_ (l0) (k % 256) [.int .u8 (k % 256)] (fun k_ => (P0_ k_ ∨ w.heap.size ≤ k_)) (fun _ => False) rfl rfl ?aP (fun _ hk => hk.elim) ?aF ?aO ?aB ?aS ?aL ?_; (case aP => exact rfl); (case aB => exact PA.below); (case aF => exact PA.fresh); (case aO => exact PA.out); (case aS => exact PA.below.size); (case aL => omega); intro vPB wPB ho hb hg hat; have PB := PA.grown ho hb hg; clear ho hb hg hat; have c2 : wPB.cell? ⟨gb, 0, none⟩ = some (.int .i64 k) := PB.box.cell 0))
  refine (parts_any _ _).mono ?_; rintro e w' ⟨rfl, rfl⟩
  go_wp2_with fail
  have S := PB.iter (pt k)
  clear PA PB c0 c1 c2
  generalize w'.iter (pt k) 0 = W0 at *
  generalize w'.heap.size = gi at *
  go_loopw [0] (fun v0 wr => ∃ pos, pos ≤ (pt k).size ∧ Aside0 (Pi w0 w P0_ gb gi #[.int .i64 k, .bool false, .int .u64 a, .int .u64 v, .int .i64 g, .int .i64 i, .int .i64 n] (pt k) pos v0 ((l0 ++ [k % 256]) ++ wroteAll a v g i n ((letters k).take pos)) wr)) (fun v0 wr => (pt k).size - wr.iterPos gi)
  case atStart => exact ⟨0, by omega, ⟨by rw [show wroteAll a v g i n ((letters k).take 0) = [] from rfl, List.append_nil]; exact S⟩⟩
  case round =>
    obtain ⟨pos, hpos, ⟨S'⟩⟩ := hrel
    clear S
    have hpos0 : wr.iterPos gi = pos := iterPos_of S'.it
    by_cases hp : pos < (pt k).size
    · have hlt : ((pt k)[pos]'hp).toNat < 128 := by rcases letter_cases k pos hp with h | h | h | h | h | h <;> rw [h] <;> decide
      have hnx : ∀ ty, (Instr.next (.pointer (some ⟨gi, 0, none⟩)) true ty).run Try.prog wr = _ := fun ty => Lib.run_next_ascii_at wr gi (pt k) pos ty S'.it hp hlt
      have hs := wroteAll_snoc a v g i n ((letters k).take pos) (pt k)[pos]
      rw [← take_next k pos hp] at hs
      have hLl : ((l0 ++ [k % 256]) ++ wroteAll a v g i n ((letters k).take pos)).length < 140737488350000 := by
        have := wroteAll_len a v g i n ((letters k).take pos)
        have := letters_len k
        have := List.length_take_le' pos (letters k)
        simp only [List.length_append, List.length_cons, List.length_nil]; omega
      have S1 := S'.next
      clear S'
      generalize wr.iterAt gi (pt k) (pos + 1) = W1 at *
      generalize hL : (l0 ++ [k % 256]) ++ wroteAll a v g i n ((letters k).take pos) = L at *
      rcases letter_cases k pos hp with h | h | h | h | h | h
      · rw [h] at hnx hs
        go_wp2_with fail
        refine (part_Pi (part_u _ _) S1).mono ?_; rintro e w' ⟨rfl, S2⟩
        clear S1
        go_wp2_with fail
        go_roundw
        case rel => exact ⟨pos + 1, hp, ⟨by rw [hs, show wrote a v g i n 117 = [] from rfl, List.append_nil, hL]; exact S2⟩⟩
        case measure => rw [iterPos_of S2.it, hpos0]; omega
      · rw [h] at hnx hs
        go_wp2_with fail
        refine (part_Pi (part_A _ _) S1).mono ?_; rintro e w' ⟨rfl, S2⟩
        clear S1
        go_wp2_with fail
        go_loopw [0, 10] (fun v0 v10 wr => ∃ (j : Nat), j ≤ 8 ∧ v10 = .int .i64 (7 - (j : Int)) ∧ Aside0 (Pi w0 w P0_ gb gi #[.int .i64 k, .bool false, .int .u64 a, .int .u64 v, .int .i64 g, .int .i64 i, .int .i64 n] (pt k) (pos + 1) v0 (L ++ top a j) wr)) (fun v0 v10 wr => (intOf v10 + 1).toNat)
        case atStart => exact ⟨0, by omega, rfl, ⟨by rw [show top a 0 = [] from rfl, List.append_nil]; exact S2⟩⟩
        case round =>
          obtain ⟨j, hj, rfl, ⟨S3⟩⟩ := hrel
          clear S2
          by_cases hj8 : j < 8
          · have hge : decide ((0 : Int) ≤ 7 - (j : Int)) = true := decide_eq_true (by omega)
            have hge2 : (0 : Int) ≤ 7 - (j : Int) := by omega
            have c1 : wr.cell? ⟨gb, 2, none⟩ = some (.int .u64 a) := S3.pa.box.cell 2
            have hm1 : IntKind.i64.wrap (8 * (7 - (j : Int))) = 8 * (7 - (j : Int)) := by rw [IntKind.wrap_i64]; omega
            have hm2 : IntKind.i64.wrap (7 - (j : Int) - 1) = 7 - (j : Int) - 1 := by rw [IntKind.wrap_i64]; omega
            have hm3 : (0 : Int) ≤ 8 * (7 - (j : Int)) := by omega
            have hlen : (L ++ top a j).length < 140737488355000 := by rw [List.length_append, top_len]; omega
            go_wp2_with ((with_reducible refine gate_builtin (b := .append) (xs := #[.tmp 41, .tmp 49]) rfl ?_); at_builtin; refine Kd.R_append (Kd.int .u8) (w0 := w0) w0.heap.size rfl (.tmp 41) (.tmp 49) 23 5 (.int .u8 0) 1 rfl Try.underlying23 info5 rfl (by decide) (by omega) u0 (L ++ top a j) (a / 2 ^ (8 * (7 - j)) % 256) [.int .u8 (a / 2 ^ (8 * (7 - j)) % 256)] (fun k_ => (P0_ k_ ∨ w.heap.size ≤ k_)) (fun _ => False) rfl rfl ?aP (fun _ hk => hk.elim) ?aF ?aO ?aB ?aS ?aL ?_; (case aP => exact rfl); (case aB => exact S3.pa.below); (case aF => exact S3.pa.fresh); (case aO => exact S3.pa.out); (case aS => exact S3.pa.below.size); (case aL => omega); intro vS4 wS4 ho hb hg hat; have S4 := S3.grown ho hb hg; clear ho hb hg hat)
            go_roundw
            case rel => exact ⟨j + 1, by omega, by (try simp only [Value.int.injEq, true_and]); (first | rfl | omega | (congr 1; omega)), ⟨by rw [top_snoc, ← List.append_assoc]; exact S4⟩⟩
            case measure => simp [intOf]; omega
          · have hj9 : j = 8 := by omega
            subst hj9
            go_wp2_with fail
            go_roundw
            case rel => exact ⟨pos + 1, hp, ⟨by rw [hs, show wrote a v g i n 65 = top a 8 from rfl, ← List.append_assoc, hL]; exact S3⟩⟩
            case measure => rw [iterPos_of S3.it, hpos0]; omega
      · rw [h] at hnx hs
        go_wp2_with fail
        refine (part_Pi (part_V _ _) S1).mono ?_; rintro e w' ⟨rfl, S2⟩
        clear S1
        go_wp2_with fail
        go_loopw [0, 10] (fun v0 v10 wr => ∃ (j : Nat), j ≤ 8 ∧ v10 = .int .i64 (7 - (j : Int)) ∧ Aside0 (Pi w0 w P0_ gb gi #[.int .i64 k, .bool false, .int .u64 a, .int .u64 v, .int .i64 g, .int .i64 i, .int .i64 n] (pt k) (pos + 1) v0 (L ++ top v j) wr)) (fun v0 v10 wr => (intOf v10 + 1).toNat)
        case atStart => exact ⟨0, by omega, rfl, ⟨by rw [show top v 0 = [] from rfl, List.append_nil]; exact S2⟩⟩
        case round =>
          obtain ⟨j, hj, rfl, ⟨S3⟩⟩ := hrel
          clear S2
          by_cases hj8 : j < 8
          · have hge : decide ((0 : Int) ≤ 7 - (j : Int)) = true := decide_eq_true (by omega)
            have hge2 : (0 : Int) ≤ 7 - (j : Int) := by omega
            have c1 : wr.cell? ⟨gb, 3, none⟩ = some (.int .u64 v) := S3.pa.box.cell 3
            have hm1 : IntKind.i64.wrap (8 * (7 - (j : Int))) = 8 * (7 - (j : Int)) := by rw [IntKind.wrap_i64]; omega
            have hm2 : IntKind.i64.wrap (7 - (j : Int) - 1) = 7 - (j : Int) - 1 := by rw [IntKind.wrap_i64]; omega
            have hm3 : (0 : Int) ≤ 8 * (7 - (j : Int)) := by omega
            have hlen : (L ++ top v j).length < 140737488355000 := by rw [List.length_append, top_len]; omega
            go_wp2_with ((with_reducible refine gate_builtin (b := .append) (xs := #[.tmp 41, .tmp 49]) rfl ?_); at_builtin; refine Kd.R_append (Kd.int .u8) (w0 := w0) w0.heap.size rfl (.tmp 41) (.tmp 49) 23 5 (.int .u8 0) 1 rfl Try.underlying23 info5 rfl (by decide) (by omega) u0 (L ++ top v j) (v / 2 ^ (8 * (7 - j)) % 256) [.int .u8 (v / 2 ^ (8 * (7 - j)) % 256)] (fun k_ => (P0_ k_ ∨ w.heap.size ≤ k_)) (fun _ => False) rfl rfl ?aP (fun _ hk => hk.elim) ?aF ?aO ?aB ?aS ?aL ?_; (case aP => exact rfl); (case aB => exact S3.pa.below); (case aF => exact S3.pa.fresh); (case aO => exact S3.pa.out); (case aS => exact S3.pa.below.size); (case aL => omega); intro vS4 wS4 ho hb hg hat; have S4 := S3.grown ho hb hg; clear ho hb hg hat)
            go_roundw
            case rel => exact ⟨j + 1, by omega, by (try simp only [Value.int.injEq, true_and]); (first | rfl | omega | (congr 1; omega)), ⟨by rw [top_snoc, ← List.append_assoc]; exact S4⟩⟩
            case measure => simp [intOf]; omega
          · have hj9 : j = 8 := by omega
            subst hj9
            go_wp2_with fail
            go_roundw
            case rel => exact ⟨pos + 1, hp, ⟨by rw [hs, show wrote a v g i n 86 = top v 8 from rfl, ← List.append_assoc, hL]; exact S3⟩⟩
            case measure => rw [iterPos_of S3.it, hpos0]; omega
      · rw [h] at hnx hs
        go_wp2_with fail
        refine (part_Pi (part_G _ _) S1).mono ?_; rintro e w' ⟨rfl, S2⟩
        clear S1
        have c1 : w'.cell? ⟨gb, 4, none⟩ = some (.int .i64 g) := S2.pa.box.cell 4
        go_wp2_with ((with_reducible refine gate_builtin (b := .append) (xs := #[.tmp 54, .tmp 59]) rfl ?_); at_builtin; refine Kd.R_append (Kd.int .u8) (w0 := w0) w0.heap.size rfl (.tmp 54) (.tmp 59) 23 5 (.int .u8 0) 1 rfl Try.underlying23 info5 rfl (by decide) (by omega) u0 (L) (g % 256) [.int .u8 (g % 256)] (fun k_ => (P0_ k_ ∨ w.heap.size ≤ k_)) (fun _ => False) rfl rfl ?aP (fun _ hk => hk.elim) ?aF ?aO ?aB ?aS ?aL ?_; (case aP => exact rfl); (case aB => exact S2.pa.below); (case aF => exact S2.pa.fresh); (case aO => exact S2.pa.out); (case aS => exact S2.pa.below.size); (case aL => omega); intro vS4 wS4 ho hb hg hat; have S4 := S2.grown ho hb hg; clear ho hb hg hat)
        go_roundw
        case rel => exact ⟨pos + 1, hp, ⟨by rw [hs, show wrote a v g i n 71 = [g % 256] from rfl, ← List.append_assoc, hL]; exact S4⟩⟩
        case measure => rw [iterPos_of S4.it, hpos0]; omega
      · rw [h] at hnx hs
        go_wp2_with fail
        refine (part_Pi (part_I _ _) S1).mono ?_; rintro e w' ⟨rfl, S2⟩
        clear S1
        have c1 : w'.cell? ⟨gb, 5, none⟩ = some (.int .i64 i) := S2.pa.box.cell 5
        go_wp2_with ((with_reducible refine gate_builtin (b := .append) (xs := #[.tmp 54, .tmp 59]) rfl ?_); at_builtin; refine Kd.R_append (Kd.int .u8) (w0 := w0) w0.heap.size rfl (.tmp 54) (.tmp 59) 23 5 (.int .u8 0) 1 rfl Try.underlying23 info5 rfl (by decide) (by omega) u0 (L) (i % 256) [.int .u8 (i % 256)] (fun k_ => (P0_ k_ ∨ w.heap.size ≤ k_)) (fun _ => False) rfl rfl ?aP (fun _ hk => hk.elim) ?aF ?aO ?aB ?aS ?aL ?_; (case aP => exact rfl); (case aB => exact S2.pa.below); (case aF => exact S2.pa.fresh); (case aO => exact S2.pa.out); (case aS => exact S2.pa.below.size); (case aL => omega); intro vS4 wS4 ho hb hg hat; have S4 := S2.grown ho hb hg; clear ho hb hg hat)
        go_roundw
        case rel => exact ⟨pos + 1, hp, ⟨by rw [hs, show wrote a v g i n 73 = [i % 256] from rfl, ← List.append_assoc, hL]; exact S4⟩⟩
        case measure => rw [iterPos_of S4.it, hpos0]; omega
      · rw [h] at hnx hs
        go_wp2_with fail
        refine (part_Pi (part_N _ _) S1).mono ?_; rintro e w' ⟨rfl, S2⟩
        clear S1
        have c1 : w'.cell? ⟨gb, 6, none⟩ = some (.int .i64 n) := S2.pa.box.cell 6
        go_wp2_with ((with_reducible refine gate_builtin (b := .append) (xs := #[.tmp 54, .tmp 59]) rfl ?_); at_builtin; refine Kd.R_append (Kd.int .u8) (w0 := w0) w0.heap.size rfl (.tmp 54) (.tmp 59) 23 5 (.int .u8 0) 1 rfl Try.underlying23 info5 rfl (by decide) (by omega) u0 (L) (n % 256) [.int .u8 (n % 256)] (fun k_ => (P0_ k_ ∨ w.heap.size ≤ k_)) (fun _ => False) rfl rfl ?aP (fun _ hk => hk.elim) ?aF ?aO ?aB ?aS ?aL ?_; (case aP => exact rfl); (case aB => exact S2.pa.below); (case aF => exact S2.pa.fresh); (case aO => exact S2.pa.out); (case aS => exact S2.pa.below.size); (case aL => omega); intro vS4 wS4 ho hb hg hat; have S4 := S2.grown ho hb hg; clear ho hb hg hat)
        go_roundw
        case rel => exact ⟨pos + 1, hp, ⟨by rw [hs, show wrote a v g i n 78 = [n % 256] from rfl, ← List.append_assoc, hL]; exact S4⟩⟩
        case measure => rw [iterPos_of S4.it, hpos0]; omega
    · have hnx : ∀ ty, (Instr.next (.pointer (some ⟨gi, 0, none⟩)) true ty).run Try.prog wr = _ := fun ty => Lib.run_next_end_at wr gi (pt k) pos ty S'.it hp
      rw [show (letters k).take pos = letters k from List.take_of_length_le (by rw [← pt_size]; omega)] at S'
      go_wp2_with fail
      go_ret
      exact ⟨_, rfl, by rw [show l0 ++ k % 256 :: wroteAll a v g i n (letters k) = (l0 ++ [k % 256]) ++ wroteAll a v g i n (letters k) by rw [List.append_assoc]; rfl]; exact S'.pa.out, S'.pa.below, S'.pa.kept⟩
set_option maxHeartbeats 8000000 in
set_option maxRecDepth 100000 in
theorem put_yes (P0_ : Nat → Prop) (u9000_ : Value) (l0 : List Int) (k : Int) (a v g i n : Int) (w0 w : World) (hB : Below w0.heap.size w0 w) (ho0 : Kd.R (Kd.int .u8) 5 w w0.heap.size P0_ u9000_ l0) (hl : l0.length + 10000 < 140737488355328) :
    Calls Try.prog 25 #[u9000_, .agg #[.int .i64 k, .bool true, .int .u64 a, .int .u64 v, .int .i64 g, .int .i64 i, .int .i64 n]] w fun e w' => ∃ v0_ : Value, e = .returned (v0_) ∧ Kd.R (Kd.int .u8) 5 w' w0.heap.size (fun k_ => (P0_ k_ ∨ w.heap.size ≤ k_)) v0_ (l0 ++ (bits .or .u8 (k % 256) 128) :: wroteAll a v g i n (letters k)) ∧ Below w0.heap.size w0 w' ∧ Kept w w' (fun k_ => P0_ k_) := by
  go_enter Try.func25, Try.ntmps25
  go_wp2_with (first | ((with_reducible refine gate_dst (N := 3) rfl ?_); refine box_event ?hg (N := 3) ?hd (cs := #[.int .i64 k, .bool true, .int .u64 a, .int .u64 v, .int .i64 g, .int .i64 i, .int .i64 n]) (t := 31) ?hr ?_; (case hd => rfl); (case hg => rfl); (case hr => first | (go_simp; done) | (go_simp; rfl)); intro gb hg w6 hbox hb; have PA := Pa.start' hB ho0 hbox hb hg; clear hbox hb hg hB ho0; have c0 : w6.cell? ⟨gb, 0, none⟩ = some (.int .i64 k) := PA.box.cell 0; have c1 : w6.cell? ⟨gb, 1, none⟩ = some (.bool true) := PA.box.cell 1) | ((with_reducible refine gate_builtin (b := .append) (xs := #[.tmp 18, .tmp 20]) rfl ?_); at_builtin; refine Kd.R_append (Kd.int .u8) (w0 := w0) w0.heap.size rfl (.tmp 18) (.tmp 20) 23 5 (.int .u8 0) 1 rfl Try.underlying23 info5 rfl (by decide) (by omega) u9000_ (l0) (bits .or .u8 (k % 256) 128) [.int .u8 (bits .or .u8 (k % 256) 128)] (fun k_ => (P0_ k_ ∨ w.heap.size ≤ k_)) (fun _ => False) rfl rfl ?aP (fun _ hk => hk.elim) ?aF ?aO ?aB ?aS ?aL ?_; (case aP => exact rfl); (case aB => exact PA.below); (case aF => exact PA.fresh); (case aO => exact PA.out); (case aS => exact PA.below.size); (case aL => omega); intro vPB wPB ho hb hg hat; have PB := PA.grown ho hb hg; clear ho hb hg hat; have c2 : wPB.cell? ⟨gb, 0, none⟩ = some (.int .i64 k) := PB.box.cell 0))
  refine (parts_any _ _).mono ?_; rintro e w' ⟨rfl, rfl⟩
  go_wp2_with fail
  have S := PB.iter (pt k)
  clear PA PB c0 c1 c2
  generalize w'.iter (pt k) 0 = W0 at *
  generalize w'.heap.size = gi at *
  go_loopw [0] (fun v0 wr => ∃ pos, pos ≤ (pt k).size ∧ Aside0 (Pi w0 w P0_ gb gi #[.int .i64 k, .bool true, .int .u64 a, .int .u64 v, .int .i64 g, .int .i64 i, .int .i64 n] (pt k) pos v0 ((l0 ++ [bits .or .u8 (k % 256) 128]) ++ wroteAll a v g i n ((letters k).take pos)) wr)) (fun v0 wr => (pt k).size - wr.iterPos gi)
  case atStart => exact ⟨0, by omega, ⟨by rw [show wroteAll a v g i n ((letters k).take 0) = [] from rfl, List.append_nil]; exact S⟩⟩
  case round =>
    obtain ⟨pos, hpos, ⟨S'⟩⟩ := hrel
    clear S
    have hpos0 : wr.iterPos gi = pos := iterPos_of S'.it
    by_cases hp : pos < (pt k).size
    · have hlt : ((pt k)[pos]'hp).toNat < 128 := by rcases letter_cases k pos hp with h | h | h | h | h | h <;> rw [h] <;> decide
      have hnx : ∀ ty, (Instr.next (.pointer (some ⟨gi, 0, none⟩)) true ty).run Try.prog wr = _ := fun ty => Lib.run_next_ascii_at wr gi (pt k) pos ty S'.it hp hlt
      have hs := wroteAll_snoc a v g i n ((letters k).take pos) (pt k)[pos]
      rw [← take_next k pos hp] at hs
      have hLl : ((l0 ++ [bits .or .u8 (k % 256) 128]) ++ wroteAll a v g i n ((letters k).take pos)).length < 140737488350000 := by
        have := wroteAll_len a v g i n ((letters k).take pos)
        have := letters_len k
        have := List.length_take_le' pos (letters k)
        simp only [List.length_append, List.length_cons, List.length_nil]; omega
      have S1 := S'.next
      clear S'
      generalize wr.iterAt gi (pt k) (pos + 1) = W1 at *
      generalize hL : (l0 ++ [bits .or .u8 (k % 256) 128]) ++ wroteAll a v g i n ((letters k).take pos) = L at *
      rcases letter_cases k pos hp with h | h | h | h | h | h
      · rw [h] at hnx hs
        go_wp2_with fail
        refine (part_Pi (part_u _ _) S1).mono ?_; rintro e w' ⟨rfl, S2⟩
        clear S1
        go_wp2_with fail
        go_roundw
        case rel => exact ⟨pos + 1, hp, ⟨by rw [hs, show wrote a v g i n 117 = [] from rfl, List.append_nil, hL]; exact S2⟩⟩
        case measure => rw [iterPos_of S2.it, hpos0]; omega
      · rw [h] at hnx hs
        go_wp2_with fail
        refine (part_Pi (part_A _ _) S1).mono ?_; rintro e w' ⟨rfl, S2⟩
        clear S1
        go_wp2_with fail
        go_loopw [0, 10] (fun v0 v10 wr => ∃ (j : Nat), j ≤ 8 ∧ v10 = .int .i64 (7 - (j : Int)) ∧ Aside0 (Pi w0 w P0_ gb gi #[.int .i64 k, .bool true, .int .u64 a, .int .u64 v, .int .i64 g, .int .i64 i, .int .i64 n] (pt k) (pos + 1) v0 (L ++ top a j) wr)) (fun v0 v10 wr => (intOf v10 + 1).toNat)
        case atStart => exact ⟨0, by omega, rfl, ⟨by rw [show top a 0 = [] from rfl, List.append_nil]; exact S2⟩⟩
        case round =>
          obtain ⟨j, hj, rfl, ⟨S3⟩⟩ := hrel
          clear S2
          by_cases hj8 : j < 8
          · have hge : decide ((0 : Int) ≤ 7 - (j : Int)) = true := decide_eq_true (by omega)
            have hge2 : (0 : Int) ≤ 7 - (j : Int) := by omega
            have c1 : wr.cell? ⟨gb, 2, none⟩ = some (.int .u64 a) := S3.pa.box.cell 2
            have hm1 : IntKind.i64.wrap (8 * (7 - (j : Int))) = 8 * (7 - (j : Int)) := by rw [IntKind.wrap_i64]; omega
            have hm2 : IntKind.i64.wrap (7 - (j : Int) - 1) = 7 - (j : Int) - 1 := by rw [IntKind.wrap_i64]; omega
            have hm3 : (0 : Int) ≤ 8 * (7 - (j : Int)) := by omega
            have hlen : (L ++ top a j).length < 140737488355000 := by rw [List.length_append, top_len]; omega
            go_wp2_with ((with_reducible refine gate_builtin (b := .append) (xs := #[.tmp 41, .tmp 49]) rfl ?_); at_builtin; refine Kd.R_append (Kd.int .u8) (w0 := w0) w0.heap.size rfl (.tmp 41) (.tmp 49) 23 5 (.int .u8 0) 1 rfl Try.underlying23 info5 rfl (by decide) (by omega) u0 (L ++ top a j) (a / 2 ^ (8 * (7 - j)) % 256) [.int .u8 (a / 2 ^ (8 * (7 - j)) % 256)] (fun k_ => (P0_ k_ ∨ w.heap.size ≤ k_)) (fun _ => False) rfl rfl ?aP (fun _ hk => hk.elim) ?aF ?aO ?aB ?aS ?aL ?_; (case aP => exact rfl); (case aB => exact S3.pa.below); (case aF => exact S3.pa.fresh); (case aO => exact S3.pa.out); (case aS => exact S3.pa.below.size); (case aL => omega); intro vS4 wS4 ho hb hg hat; have S4 := S3.grown ho hb hg; clear ho hb hg hat)
            go_roundw
            case rel => exact ⟨j + 1, by omega, by (try simp only [Value.int.injEq, true_and]); (first | rfl | omega | (congr 1; omega)), ⟨by rw [top_snoc, ← List.append_assoc]; exact S4⟩⟩
            case measure => simp [intOf]; omega
          · have hj9 : j = 8 := by omega
            subst hj9
            go_wp2_with fail
            go_roundw
            case rel => exact ⟨pos + 1, hp, ⟨by rw [hs, show wrote a v g i n 65 = top a 8 from rfl, ← List.append_assoc, hL]; exact S3⟩⟩
            case measure => rw [iterPos_of S3.it, hpos0]; omega
      · rw [h] at hnx hs
        go_wp2_with fail
        refine (part_Pi (part_V _ _) S1).mono ?_; rintro e w' ⟨rfl, S2⟩
        clear S1
        go_wp2_with fail
        go_loopw [0, 10] (fun v0 v10 wr => ∃ (j : Nat), j ≤ 8 ∧ v10 = .int .i64 (7 - (j : Int)) ∧ Aside0 (Pi w0 w P0_ gb gi #[.int .i64 k, .bool true, .int .u64 a, .int .u64 v, .int .i64 g, .int .i64 i, .int .i64 n] (pt k) (pos + 1) v0 (L ++ top v j) wr)) (fun v0 v10 wr => (intOf v10 + 1).toNat)
        case atStart => exact ⟨0, by omega, rfl, ⟨by rw [show top v 0 = [] from rfl, List.append_nil]; exact S2⟩⟩
        case round =>
          obtain ⟨j, hj, rfl, ⟨S3⟩⟩ := hrel
          clear S2
          by_cases hj8 : j < 8
          · have hge : decide ((0 : Int) ≤ 7 - (j : Int)) = true := decide_eq_true (by omega)
            have hge2 : (0 : Int) ≤ 7 - (j : Int) := by omega
            have c1 : wr.cell? ⟨gb, 3, none⟩ = some (.int .u64 v) := S3.pa.box.cell 3
            have hm1 : IntKind.i64.wrap (8 * (7 - (j : Int))) = 8 * (7 - (j : Int)) := by rw [IntKind.wrap_i64]; omega
            have hm2 : IntKind.i64.wrap (7 - (j : Int) - 1) = 7 - (j : Int) - 1 := by rw [IntKind.wrap_i64]; omega
            have hm3 : (0 : Int) ≤ 8 * (7 - (j : Int)) := by omega
            have hlen : (L ++ top v j).length < 140737488355000 := by rw [List.length_append, top_len]; omega
            go_wp2_with ((with_reducible refine gate_builtin (b := .append) (xs := #[.tmp 41, .tmp 49]) rfl ?_); at_builtin; refine Kd.R_append (Kd.int .u8) (w0 := w0) w0.heap.size rfl (.tmp 41) (.tmp 49) 23 5 (.int .u8 0) 1 rfl Try.underlying23 info5 rfl (by decide) (by omega) u0 (L ++ top v j) (v / 2 ^ (8 * (7 - j)) % 256) [.int .u8 (v / 2 ^ (8 * (7 - j)) % 256)] (fun k_ => (P0_ k_ ∨ w.heap.size ≤ k_)) (fun _ => False) rfl rfl ?aP (fun _ hk => hk.elim) ?aF ?aO ?aB ?aS ?aL ?_; (case aP => exact rfl); (case aB => exact S3.pa.below); (case aF => exact S3.pa.fresh); (case aO => exact S3.pa.out); (case aS => exact S3.pa.below.size); (case aL => omega); intro vS4 wS4 ho hb hg hat; have S4 := S3.grown ho hb hg; clear ho hb hg hat)
            go_roundw
            case rel => exact ⟨j + 1, by omega, by (try simp only [Value.int.injEq, true_and]); (first | rfl | omega | (congr 1; omega)), ⟨by rw [top_snoc, ← List.append_assoc]; exact S4⟩⟩
            case measure => simp [intOf]; omega
          · have hj9 : j = 8 := by omega
            subst hj9
            go_wp2_with fail
            go_roundw
            case rel => exact ⟨pos + 1, hp, ⟨by rw [hs, show wrote a v g i n 86 = top v 8 from rfl, ← List.append_assoc, hL]; exact S3⟩⟩
            case measure => rw [iterPos_of S3.it, hpos0]; omega
      · rw [h] at hnx hs
        go_wp2_with fail
        refine (part_Pi (part_G _ _) S1).mono ?_; rintro e w' ⟨rfl, S2⟩
        clear S1
        have c1 : w'.cell? ⟨gb, 4, none⟩ = some (.int .i64 g) := S2.pa.box.cell 4
        go_wp2_with ((with_reducible refine gate_builtin (b := .append) (xs := #[.tmp 54, .tmp 59]) rfl ?_); at_builtin; refine Kd.R_append (Kd.int .u8) (w0 := w0) w0.heap.size rfl (.tmp 54) (.tmp 59) 23 5 (.int .u8 0) 1 rfl Try.underlying23 info5 rfl (by decide) (by omega) u0 (L) (g % 256) [.int .u8 (g % 256)] (fun k_ => (P0_ k_ ∨ w.heap.size ≤ k_)) (fun _ => False) rfl rfl ?aP (fun _ hk => hk.elim) ?aF ?aO ?aB ?aS ?aL ?_; (case aP => exact rfl); (case aB => exact S2.pa.below); (case aF => exact S2.pa.fresh); (case aO => exact S2.pa.out); (case aS => exact S2.pa.below.size); (case aL => omega); intro vS4 wS4 ho hb hg hat; have S4 := S2.grown ho hb hg; clear ho hb hg hat)
        go_roundw
        case rel => exact ⟨pos + 1, hp, ⟨by rw [hs, show wrote a v g i n 71 = [g % 256] from rfl, ← List.append_assoc, hL]; exact S4⟩⟩
        case measure => rw [iterPos_of S4.it, hpos0]; omega
      · rw [h] at hnx hs
        go_wp2_with fail
        refine (part_Pi (part_I _ _) S1).mono ?_; rintro e w' ⟨rfl, S2⟩
        clear S1
        have c1 : w'.cell? ⟨gb, 5, none⟩ = some (.int .i64 i) := S2.pa.box.cell 5
        go_wp2_with ((with_reducible refine gate_builtin (b := .append) (xs := #[.tmp 54, .tmp 59]) rfl ?_); at_builtin; refine Kd.R_append (Kd.int .u8) (w0 := w0) w0.heap.size rfl (.tmp 54) (.tmp 59) 23 5 (.int .u8 0) 1 rfl Try.underlying23 info5 rfl (by decide) (by omega) u0 (L) (i % 256) [.int .u8 (i % 256)] (fun k_ => (P0_ k_ ∨ w.heap.size ≤ k_)) (fun _ => False) rfl rfl ?aP (fun _ hk => hk.elim) ?aF ?aO ?aB ?aS ?aL ?_; (case aP => exact rfl); (case aB => exact S2.pa.below); (case aF => exact S2.pa.fresh); (case aO => exact S2.pa.out); (case aS => exact S2.pa.below.size); (case aL => omega); intro vS4 wS4 ho hb hg hat; have S4 := S2.grown ho hb hg; clear ho hb hg hat)
        go_roundw
        case rel => exact ⟨pos + 1, hp, ⟨by rw [hs, show wrote a v g i n 73 = [i % 256] from rfl, ← List.append_assoc, hL]; exact S4⟩⟩
        case measure => rw [iterPos_of S4.it, hpos0]; omega
      · rw [h] at hnx hs
        go_wp2_with fail
        refine (part_Pi (part_N _ _) S1).mono ?_; rintro e w' ⟨rfl, S2⟩
        clear S1
        have c1 : w'.cell? ⟨gb, 6, none⟩ = some (.int .i64 n) := S2.pa.box.cell 6
        go_wp2_with ((with_reducible refine gate_builtin (b := .append) (xs := #[.tmp 54, .tmp 59]) rfl ?_); at_builtin; refine Kd.R_append (Kd.int .u8) (w0 := w0) w0.heap.size rfl (.tmp 54) (.tmp 59) 23 5 (.int .u8 0) 1 rfl Try.underlying23 info5 rfl (by decide) (by omega) u0 (L) (n % 256) [.int .u8 (n % 256)] (fun k_ => (P0_ k_ ∨ w.heap.size ≤ k_)) (fun _ => False) rfl rfl ?aP (fun _ hk => hk.elim) ?aF ?aO ?aB ?aS ?aL ?_; (case aP => exact rfl); (case aB => exact S2.pa.below); (case aF => exact S2.pa.fresh); (case aO => exact S2.pa.out); (case aS => exact S2.pa.below.size); (case aL => omega); intro vS4 wS4 ho hb hg hat; have S4 := S2.grown ho hb hg; clear ho hb hg hat)
        go_roundw
        case rel => exact ⟨pos + 1, hp, ⟨by rw [hs, show wrote a v g i n 78 = [n % 256] from rfl, ← List.append_assoc, hL]; exact S4⟩⟩
        case measure => rw [iterPos_of S4.it, hpos0]; omega
    · have hnx : ∀ ty, (Instr.next (.pointer (some ⟨gi, 0, none⟩)) true ty).run Try.prog wr = _ := fun ty => Lib.run_next_end_at wr gi (pt k) pos ty S'.it hp
      rw [show (letters k).take pos = letters k from List.take_of_length_le (by rw [← pt_size]; omega)] at S'
      go_wp2_with fail
      go_ret
      exact ⟨_, rfl, by rw [show l0 ++ (bits .or .u8 (k % 256) 128) :: wroteAll a v g i n (letters k) = (l0 ++ [bits .or .u8 (k % 256) 128]) ++ wroteAll a v g i n (letters k) by rw [List.append_assoc]; rfl]; exact S'.pa.out, S'.pa.below, S'.pa.kept⟩
/-- An operation's first byte. -/
def first (k : Int) (u : Bool) : Int := if u then k + 128 else k
/-- An operation's bytes. -/
def opBytes (k : Int) (u : Bool) (a v g i n : Int) : List Int := first k u :: wroteAll a v g i n (letters k)
theorem first_no {k : Int} (h0 : 0 ≤ k) (h8 : k ≤ 8) : k % 256 = first k false := by unfold first; simp; omega
theorem first_yes {k : Int} (h0 : 0 ≤ k) (h8 : k ≤ 8) : bits .or .u8 (k % 256) 128 = first k true := by
  rcases kinds k with rfl | rfl | rfl | rfl | rfl | rfl | rfl | rfl | rfl | h
  iterate 9 · rfl
  · omega
/-- script.put of an operation of a kind, behind others. -/
def script_put.f (l0 : List Int) (k : Int) (u : Bool) (a v g i n : Int) : Option (List Int) := if 0 ≤ k ∧ k ≤ 8 ∧ l0.length + 10000 < 140737488355328 then some (l0 ++ opBytes k u a v g i n) else none
theorem script_put.calls (P0_ : Nat → Prop) (u9000_ : Value) (l0 : List Int) (a1_0 : Int) (a1_1 : Bool) (a1_2 : Int) (a1_3 : Int) (a1_4 : Int) (a1_5 : Int) (a1_6 : Int) (r : List Int) (w0 w : World) (hB : Below w0.heap.size w0 w) (ho0 : Kd.R (Kd.int .u8) 5 w w0.heap.size P0_ u9000_ l0) (h : script_put.f l0 a1_0 a1_1 a1_2 a1_3 a1_4 a1_5 a1_6 = some r) :
    Calls Try.prog 25 #[u9000_, .agg #[.int .i64 a1_0, .bool a1_1, .int .u64 a1_2, .int .u64 a1_3, .int .i64 a1_4, .int .i64 a1_5, .int .i64 a1_6]] w fun e w' => ∃ v0_ : Value, e = .returned (v0_) ∧ Kd.R (Kd.int .u8) 5 w' w0.heap.size (fun k_ => (P0_ k_ ∨ w.heap.size ≤ k_)) v0_ r ∧ Below w0.heap.size w0 w' ∧ Kept w w' (fun k_ => P0_ k_) := by
  unfold script_put.f at h
  by_cases hc : 0 ≤ a1_0 ∧ a1_0 ≤ 8 ∧ l0.length + 10000 < 140737488355328
  · rw [if_pos hc] at h
    obtain rfl := Option.some.inj h
    unfold opBytes
    cases a1_1
    · rw [← first_no hc.1 hc.2.1]; exact put_no P0_ u9000_ l0 a1_0 a1_2 a1_3 a1_4 a1_5 a1_6 w0 w hB ho0 hc.2.2
    · rw [← first_yes hc.1 hc.2.1]; exact put_yes P0_ u9000_ l0 a1_0 a1_2 a1_3 a1_4 a1_5 a1_6 w0 w hB ho0 hc.2.2
  · rw [if_neg hc] at h; cases h
end Go.Proofs.Ytmifcdmkobammaa.ScriptWalk
