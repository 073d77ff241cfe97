import Derived.Test.YtmifcdmkobammaaParts2
import Derived.Outline
import Derived.RegionTactic
import Derived.BigRegion
import Derived.Deep.RegionHeld3
import Derived.Deep.DeepCutAuto
namespace Go.Proofs.Ytmifcdmkobammaa.ScriptWalk
open Go.RowKit Go.Proofs.Ytmifcdmkobammaa.Parts Go.Proofs.Ytmifcdmkobammaa.Blks
attribute [local go_sem high] eqA31
set_option maxHeartbeats 8000000 in
set_option maxRecDepth 100000 in
theorem right_no (k : Int) (a v g i n : Int) (w : World) :
    Calls Try.prog 13 #[.agg #[.int .i64 k, .bool false, .int .u64 a, .int .u64 v, .int .i64 g, .int .i64 i, .int .i64 n]] w fun e w' => e = .returned (.bool (rightB k false a v g i n)) ∧ Below w.heap.size w w' := by
  go_enter Try.func13, Try.ntmps13
  go_wp2_with fail
  refine (parts_any _ _).mono ?_; rintro e w' ⟨rfl, rfl⟩
  go_wp2_with fail
  go_region
  all_goals go_wp2_with fail
  all_goals have S := St.start w #[.int .i64 k, .bool false, .int .u64 a, .int .u64 v, .int .i64 g, .int .i64 i, .int .i64 n] #[.int .i64 k, .bool false, .int .u64 0, .int .u64 0, .int .i64 0, .int .i64 0, .int .i64 0] (pt k)
  all_goals generalize (((w.alloc (.cells #[.int .i64 k, .bool false, .int .u64 a, .int .u64 v, .int .i64 g, .int .i64 i, .int .i64 n] 31)).alloc (.cells #[.int .i64 k, .bool false, .int .u64 0, .int .u64 0, .int .i64 0, .int .i64 0, .int .i64 0] 31)).drew.iter (pt k) 0) = W0 at *
  all_goals (go_loopw [] (fun wr => ∃ pos, pos ≤ (pt k).size ∧ St w w.heap.size (w.heap.size + 1) (w.heap.size + 1 + 1) #[.int .i64 k, .bool false, .int .u64 a, .int .u64 v, .int .i64 g, .int .i64 i, .int .i64 n] (fill #[.int .i64 k, .bool false, .int .u64 a, .int .u64 v, .int .i64 g, .int .i64 i, .int .i64 n] ((letters k).take pos) #[.int .i64 k, .bool false, .int .u64 0, .int .u64 0, .int .i64 0, .int .i64 0, .int .i64 0]) (pt k) pos wr) (fun wr => (pt k).size - wr.iterPos (w.heap.size + 1 + 1)))
  any_goals (case atStart => exact ⟨0, by omega, S⟩)
  case round =>
    obtain ⟨pos, hpos, S⟩ := hrel
    have hpos0 : wr.iterPos (w.heap.size + 1 + 1) = pos := iterPos_of S.hi
    by_cases hp : pos < (pt k).size
    · have hlt : ((pt k)[pos]'hp).toNat < 128 := by rcases letter_cases k pos hp with h | h | h | h | h | h <;> rw [h] <;> decide
      have hnx : ∀ ty, (Instr.next (.pointer (some ⟨w.heap.size + 1 + 1, 0, none⟩)) true ty).run Try.prog wr = _ := fun ty => Lib.run_next_ascii_at wr (w.heap.size + 1 + 1) (pt k) pos ty S.hi hp hlt
      have hs := fill_snoc #[.int .i64 k, .bool false, .int .u64 a, .int .u64 v, .int .i64 g, .int .i64 i, .int .i64 n] ((letters k).take pos) (pt k)[pos] #[.int .i64 k, .bool false, .int .u64 0, .int .u64 0, .int .i64 0, .int .i64 0, .int .i64 0]
      rw [← take_next k pos hp] at hs
      have S1 := S.next
      clear S
      generalize wr.iterAt (w.heap.size + 1 + 1) (pt k) (pos + 1) = W1 at *
      rcases letter_cases k pos hp with h | h | h | h | h | h
      · rw [h] at hnx hs
        go_wp2_with fail
        refine (part_St (part_u _ _) S1).mono ?_; rintro e w' ⟨rfl, S2⟩
        go_wp2_with fail
        refine (part_St (part_u _ _) S2).mono ?_; rintro e w'' ⟨rfl, S3⟩
        clear S1 S2
        go_wp2_with fail
        go_roundw
        case rel => exact ⟨pos + 1, hp, by rw [hs]; exact S3⟩
        case measure => rw [iterPos_of S3.hi, hpos0]; omega
      · rw [h] at hnx hs
        go_wp2_with fail
        refine (part_St (part_A _ _) S1).mono ?_; rintro e w' ⟨rfl, S2⟩
        go_wp2_with fail
        refine (part_St (part_A _ _) S2).mono ?_; rintro e w'' ⟨rfl, S3⟩
        clear S1 S2
        have c1 : w''.cell? ⟨w.heap.size, 2, none⟩ = some (.int .u64 a) := S3.ho.cell 2
        obtain ⟨x, hx⟩ := fill_at #[.int .i64 k, .bool false, .int .u64 a, .int .u64 v, .int .i64 g, .int .i64 i, .int .i64 n] ((letters k).take pos) #[.int .i64 k, .bool false, .int .u64 0, .int .u64 0, .int .i64 0, .int .i64 0, .int .i64 0] rfl 2 (by decide)
        have c2 := (S3.hb.cell 2).trans hx
        have c3 := S3.hb.frozen 2
        go_wp2_with fail
        go_roundw
        case rel => exact ⟨pos + 1, hp, by rw [hs]; exact S3.put 2 (.int .u64 a)⟩
        case measure => rw [iterPos_of (S3.put 2 (.int .u64 a)).hi, hpos0]; omega
      · rw [h] at hnx hs
        go_wp2_with fail
        refine (part_St (part_V _ _) S1).mono ?_; rintro e w' ⟨rfl, S2⟩
        go_wp2_with fail
        refine (part_St (part_V _ _) S2).mono ?_; rintro e w'' ⟨rfl, S3⟩
        clear S1 S2
        have c1 : w''.cell? ⟨w.heap.size, 3, none⟩ = some (.int .u64 v) := S3.ho.cell 3
        obtain ⟨x, hx⟩ := fill_at #[.int .i64 k, .bool false, .int .u64 a, .int .u64 v, .int .i64 g, .int .i64 i, .int .i64 n] ((letters k).take pos) #[.int .i64 k, .bool false, .int .u64 0, .int .u64 0, .int .i64 0, .int .i64 0, .int .i64 0] rfl 3 (by decide)
        have c2 := (S3.hb.cell 3).trans hx
        have c3 := S3.hb.frozen 3
        go_wp2_with fail
        go_roundw
        case rel => exact ⟨pos + 1, hp, by rw [hs]; exact S3.put 3 (.int .u64 v)⟩
        case measure => rw [iterPos_of (S3.put 3 (.int .u64 v)).hi, hpos0]; omega
      · rw [h] at hnx hs
        go_wp2_with fail
        refine (part_St (part_G _ _) S1).mono ?_; rintro e w' ⟨rfl, S2⟩
        go_wp2_with fail
        refine (part_St (part_G _ _) S2).mono ?_; rintro e w'' ⟨rfl, S3⟩
        clear S1 S2
        have c1 : w''.cell? ⟨w.heap.size, 4, none⟩ = some (.int .i64 g) := S3.ho.cell 4
        obtain ⟨x, hx⟩ := fill_at #[.int .i64 k, .bool false, .int .u64 a, .int .u64 v, .int .i64 g, .int .i64 i, .int .i64 n] ((letters k).take pos) #[.int .i64 k, .bool false, .int .u64 0, .int .u64 0, .int .i64 0, .int .i64 0, .int .i64 0] rfl 4 (by decide)
        have c2 := (S3.hb.cell 4).trans hx
        have c3 := S3.hb.frozen 4
        go_wp2_with fail
        go_roundw
        case rel => exact ⟨pos + 1, hp, by rw [hs]; exact S3.put 4 (.int .i64 g)⟩
        case measure => rw [iterPos_of (S3.put 4 (.int .i64 g)).hi, hpos0]; omega
      · rw [h] at hnx hs
        go_wp2_with fail
        refine (part_St (part_I _ _) S1).mono ?_; rintro e w' ⟨rfl, S2⟩
        go_wp2_with fail
        refine (part_St (part_I _ _) S2).mono ?_; rintro e w'' ⟨rfl, S3⟩
        clear S1 S2
        have c1 : w''.cell? ⟨w.heap.size, 5, none⟩ = some (.int .i64 i) := S3.ho.cell 5
        obtain ⟨x, hx⟩ := fill_at #[.int .i64 k, .bool false, .int .u64 a, .int .u64 v, .int .i64 g, .int .i64 i, .int .i64 n] ((letters k).take pos) #[.int .i64 k, .bool false, .int .u64 0, .int .u64 0, .int .i64 0, .int .i64 0, .int .i64 0] rfl 5 (by decide)
        have c2 := (S3.hb.cell 5).trans hx
        have c3 := S3.hb.frozen 5
        go_wp2_with fail
        go_roundw
        case rel => exact ⟨pos + 1, hp, by rw [hs]; exact S3.put 5 (.int .i64 i)⟩
        case measure => rw [iterPos_of (S3.put 5 (.int .i64 i)).hi, hpos0]; omega
      · rw [h] at hnx hs
        go_wp2_with fail
        refine (part_St (part_N _ _) S1).mono ?_; rintro e w' ⟨rfl, S2⟩
        go_wp2_with fail
        refine (part_St (part_N _ _) S2).mono ?_; rintro e w'' ⟨rfl, S3⟩
        clear S1 S2
        have c1 : w''.cell? ⟨w.heap.size, 6, none⟩ = some (.int .i64 n) := S3.ho.cell 6
        obtain ⟨x, hx⟩ := fill_at #[.int .i64 k, .bool false, .int .u64 a, .int .u64 v, .int .i64 g, .int .i64 i, .int .i64 n] ((letters k).take pos) #[.int .i64 k, .bool false, .int .u64 0, .int .u64 0, .int .i64 0, .int .i64 0, .int .i64 0] rfl 6 (by decide)
        have c2 := (S3.hb.cell 6).trans hx
        have c3 := S3.hb.frozen 6
        go_wp2_with fail
        go_roundw
        case rel => exact ⟨pos + 1, hp, by rw [hs]; exact S3.put 6 (.int .i64 n)⟩
        case measure => rw [iterPos_of (S3.put 6 (.int .i64 n)).hi, hpos0]; omega
    · have hnx : ∀ ty, (Instr.next (.pointer (some ⟨w.heap.size + 1 + 1, 0, none⟩)) true ty).run Try.prog wr = _ := fun ty => Lib.run_next_end_at wr (w.heap.size + 1 + 1) (pt k) pos ty S.hi hp
      rw [show (letters k).take pos = letters k from List.take_of_length_le (by rw [← pt_size]; omega)] at S
      have hf := fill_form k false (.int .i64 k) (.bool false) a v g i n
      have hS := S
      rw [hf] at hS
      have o0 : wr.cell? ⟨w.heap.size, 0, none⟩ = some _ := hS.ho.cell 0
      have o1 : wr.cell? ⟨w.heap.size, 1, none⟩ = some _ := hS.ho.cell 1
      have o2 : wr.cell? ⟨w.heap.size, 2, none⟩ = some _ := hS.ho.cell 2
      have o3 : wr.cell? ⟨w.heap.size, 3, none⟩ = some _ := hS.ho.cell 3
      have o4 : wr.cell? ⟨w.heap.size, 4, none⟩ = some _ := hS.ho.cell 4
      have o5 : wr.cell? ⟨w.heap.size, 5, none⟩ = some _ := hS.ho.cell 5
      have o6 : wr.cell? ⟨w.heap.size, 6, none⟩ = some _ := hS.ho.cell 6
      have b0 : wr.cell? ⟨w.heap.size + 1, 0, none⟩ = some _ := hS.hb.cell 0
      have b1 : wr.cell? ⟨w.heap.size + 1, 1, none⟩ = some _ := hS.hb.cell 1
      have b2 : wr.cell? ⟨w.heap.size + 1, 2, none⟩ = some _ := hS.hb.cell 2
      have b3 : wr.cell? ⟨w.heap.size + 1, 3, none⟩ = some _ := hS.hb.cell 3
      have b4 : wr.cell? ⟨w.heap.size + 1, 4, none⟩ = some _ := hS.hb.cell 4
      have b5 : wr.cell? ⟨w.heap.size + 1, 5, none⟩ = some _ := hS.hb.cell 5
      have b6 : wr.cell? ⟨w.heap.size + 1, 6, none⟩ = some _ := hS.hb.cell 6
      clear hS hf
      have hb := S.below
      clear S
      go_wp2_with fail
      all_goals go_ret
      all_goals refine ⟨?_, hb⟩
      all_goals clear o0 o1 o2 o3 o4 o5 o6 b0 b1 b2 b3 b4 b5 b6 hnx
      all_goals (simp [rightB, *] <;> first | omega | (intro z1 z2 z3 z4 z5 z6; exact absurd (And.intro z1 (And.intro z2 (And.intro z3 (And.intro z4 (And.intro z5 z6))))) (by assumption)))
set_option maxHeartbeats 8000000 in
set_option maxRecDepth 100000 in
theorem right_yes (k : Int) (a v g i n : Int) (w : World) :
    Calls Try.prog 13 #[.agg #[.int .i64 k, .bool true, .int .u64 a, .int .u64 v, .int .i64 g, .int .i64 i, .int .i64 n]] w fun e w' => e = .returned (.bool (rightB k true a v g i n)) ∧ Below w.heap.size w w' := by
  go_enter Try.func13, Try.ntmps13
  go_wp2_with fail
  refine (parts_any _ _).mono ?_; rintro e w' ⟨rfl, rfl⟩
  go_wp2_with fail
  go_region_held3 (fun w' => w'.cell? ⟨w.heap.size,0,none⟩ = some (.int .i64 k) ∧ w'.cell? ⟨w.heap.size,1,none⟩ = some (.bool true)) (go_keep) (first | (go_at_call 23; refine (contains_any _ _).mono ?_; rintro e w' ⟨rfl, rfl⟩))
  all_goals (
    go_wp2_with fail
    have S := St.start w #[.int .i64 k, .bool true, .int .u64 a, .int .u64 v, .int .i64 g, .int .i64 i, .int .i64 n] #[.int .i64 k, .bool (hasU k), .int .u64 0, .int .u64 0, .int .i64 0, .int .i64 0, .int .i64 0] (pt k)
    generalize (((w.alloc (.cells #[.int .i64 k, .bool true, .int .u64 a, .int .u64 v, .int .i64 g, .int .i64 i, .int .i64 n] 31)).alloc (.cells #[.int .i64 k, .bool (hasU k), .int .u64 0, .int .u64 0, .int .i64 0, .int .i64 0, .int .i64 0] 31)).drew.iter (pt k) 0) = W0 at *
    (go_loopw [] (fun wr => ∃ pos, pos ≤ (pt k).size ∧ St w w.heap.size (w.heap.size + 1) (w.heap.size + 1 + 1) #[.int .i64 k, .bool true, .int .u64 a, .int .u64 v, .int .i64 g, .int .i64 i, .int .i64 n] (fill #[.int .i64 k, .bool true, .int .u64 a, .int .u64 v, .int .i64 g, .int .i64 i, .int .i64 n] ((letters k).take pos) #[.int .i64 k, .bool (hasU k), .int .u64 0, .int .u64 0, .int .i64 0, .int .i64 0, .int .i64 0]) (pt k) pos wr) (fun wr => (pt k).size - wr.iterPos (w.heap.size + 1 + 1)))
    (case atStart => exact ⟨0, by omega, S⟩)
    case round =>
      obtain ⟨pos, hpos, S⟩ := hrel
      have hpos0 : wr.iterPos (w.heap.size + 1 + 1) = pos := iterPos_of S.hi
      by_cases hp : pos < (pt k).size
      · have hlt : ((pt k)[pos]'hp).toNat < 128 := by rcases letter_cases k pos hp with h | h | h | h | h | h <;> rw [h] <;> decide
        have hnx : ∀ ty, (Instr.next (.pointer (some ⟨w.heap.size + 1 + 1, 0, none⟩)) true ty).run Try.prog wr = _ := fun ty => Lib.run_next_ascii_at wr (w.heap.size + 1 + 1) (pt k) pos ty S.hi hp hlt
        have hs := fill_snoc #[.int .i64 k, .bool true, .int .u64 a, .int .u64 v, .int .i64 g, .int .i64 i, .int .i64 n] ((letters k).take pos) (pt k)[pos] #[.int .i64 k, .bool (hasU k), .int .u64 0, .int .u64 0, .int .i64 0, .int .i64 0, .int .i64 0]
        rw [← take_next k pos hp] at hs
        have S1 := S.next
        clear S
        generalize wr.iterAt (w.heap.size + 1 + 1) (pt k) (pos + 1) = W1 at *
        rcases letter_cases k pos hp with h | h | h | h | h | h
        · rw [h] at hnx hs
          go_wp2_with fail
          refine (part_St (part_u _ _) S1).mono ?_; rintro e w' ⟨rfl, S2⟩
          go_wp2_with fail
          refine (part_St (part_u _ _) S2).mono ?_; rintro e w'' ⟨rfl, S3⟩
          clear S1 S2
          go_wp2_with fail
          go_roundw
          case rel => exact ⟨pos + 1, hp, by rw [hs]; exact S3⟩
          case measure => rw [iterPos_of S3.hi, hpos0]; omega
        · rw [h] at hnx hs
          go_wp2_with fail
          refine (part_St (part_A _ _) S1).mono ?_; rintro e w' ⟨rfl, S2⟩
          go_wp2_with fail
          refine (part_St (part_A _ _) S2).mono ?_; rintro e w'' ⟨rfl, S3⟩
          clear S1 S2
          have c1 : w''.cell? ⟨w.heap.size, 2, none⟩ = some (.int .u64 a) := S3.ho.cell 2
          obtain ⟨x, hx⟩ := fill_at #[.int .i64 k, .bool true, .int .u64 a, .int .u64 v, .int .i64 g, .int .i64 i, .int .i64 n] ((letters k).take pos) #[.int .i64 k, .bool (hasU k), .int .u64 0, .int .u64 0, .int .i64 0, .int .i64 0, .int .i64 0] rfl 2 (by decide)
          have c2 := (S3.hb.cell 2).trans hx
          have c3 := S3.hb.frozen 2
          go_wp2_with fail
          go_roundw
          case rel => exact ⟨pos + 1, hp, by rw [hs]; exact S3.put 2 (.int .u64 a)⟩
          case measure => rw [iterPos_of (S3.put 2 (.int .u64 a)).hi, hpos0]; omega
        · rw [h] at hnx hs
          go_wp2_with fail
          refine (part_St (part_V _ _) S1).mono ?_; rintro e w' ⟨rfl, S2⟩
          go_wp2_with fail
          refine (part_St (part_V _ _) S2).mono ?_; rintro e w'' ⟨rfl, S3⟩
          clear S1 S2
          have c1 : w''.cell? ⟨w.heap.size, 3, none⟩ = some (.int .u64 v) := S3.ho.cell 3
          obtain ⟨x, hx⟩ := fill_at #[.int .i64 k, .bool true, .int .u64 a, .int .u64 v, .int .i64 g, .int .i64 i, .int .i64 n] ((letters k).take pos) #[.int .i64 k, .bool (hasU k), .int .u64 0, .int .u64 0, .int .i64 0, .int .i64 0, .int .i64 0] rfl 3 (by decide)
          have c2 := (S3.hb.cell 3).trans hx
          have c3 := S3.hb.frozen 3
          go_wp2_with fail
          go_roundw
          case rel => exact ⟨pos + 1, hp, by rw [hs]; exact S3.put 3 (.int .u64 v)⟩
          case measure => rw [iterPos_of (S3.put 3 (.int .u64 v)).hi, hpos0]; omega
        · rw [h] at hnx hs
          go_wp2_with fail
          refine (part_St (part_G _ _) S1).mono ?_; rintro e w' ⟨rfl, S2⟩
          go_wp2_with fail
          refine (part_St (part_G _ _) S2).mono ?_; rintro e w'' ⟨rfl, S3⟩
          clear S1 S2
          have c1 : w''.cell? ⟨w.heap.size, 4, none⟩ = some (.int .i64 g) := S3.ho.cell 4
          obtain ⟨x, hx⟩ := fill_at #[.int .i64 k, .bool true, .int .u64 a, .int .u64 v, .int .i64 g, .int .i64 i, .int .i64 n] ((letters k).take pos) #[.int .i64 k, .bool (hasU k), .int .u64 0, .int .u64 0, .int .i64 0, .int .i64 0, .int .i64 0] rfl 4 (by decide)
          have c2 := (S3.hb.cell 4).trans hx
          have c3 := S3.hb.frozen 4
          go_wp2_with fail
          go_roundw
          case rel => exact ⟨pos + 1, hp, by rw [hs]; exact S3.put 4 (.int .i64 g)⟩
          case measure => rw [iterPos_of (S3.put 4 (.int .i64 g)).hi, hpos0]; omega
        · rw [h] at hnx hs
          go_wp2_with fail
          refine (part_St (part_I _ _) S1).mono ?_; rintro e w' ⟨rfl, S2⟩
          go_wp2_with fail
          refine (part_St (part_I _ _) S2).mono ?_; rintro e w'' ⟨rfl, S3⟩
          clear S1 S2
          have c1 : w''.cell? ⟨w.heap.size, 5, none⟩ = some (.int .i64 i) := S3.ho.cell 5
          obtain ⟨x, hx⟩ := fill_at #[.int .i64 k, .bool true, .int .u64 a, .int .u64 v, .int .i64 g, .int .i64 i, .int .i64 n] ((letters k).take pos) #[.int .i64 k, .bool (hasU k), .int .u64 0, .int .u64 0, .int .i64 0, .int .i64 0, .int .i64 0] rfl 5 (by decide)
          have c2 := (S3.hb.cell 5).trans hx
          have c3 := S3.hb.frozen 5
          go_wp2_with fail
          go_roundw
          case rel => exact ⟨pos + 1, hp, by rw [hs]; exact S3.put 5 (.int .i64 i)⟩
          case measure => rw [iterPos_of (S3.put 5 (.int .i64 i)).hi, hpos0]; omega
        · rw [h] at hnx hs
          go_wp2_with fail
          refine (part_St (part_N _ _) S1).mono ?_; rintro e w' ⟨rfl, S2⟩
          go_wp2_with fail
          refine (part_St (part_N _ _) S2).mono ?_; rintro e w'' ⟨rfl, S3⟩
          clear S1 S2
          have c1 : w''.cell? ⟨w.heap.size, 6, none⟩ = some (.int .i64 n) := S3.ho.cell 6
          obtain ⟨x, hx⟩ := fill_at #[.int .i64 k, .bool true, .int .u64 a, .int .u64 v, .int .i64 g, .int .i64 i, .int .i64 n] ((letters k).take pos) #[.int .i64 k, .bool (hasU k), .int .u64 0, .int .u64 0, .int .i64 0, .int .i64 0, .int .i64 0] rfl 6 (by decide)
          have c2 := (S3.hb.cell 6).trans hx
          have c3 := S3.hb.frozen 6
          go_wp2_with fail
          go_roundw
          case rel => exact ⟨pos + 1, hp, by rw [hs]; exact S3.put 6 (.int .i64 n)⟩
          case measure => rw [iterPos_of (S3.put 6 (.int .i64 n)).hi, hpos0]; omega
      · have hnx : ∀ ty, (Instr.next (.pointer (some ⟨w.heap.size + 1 + 1, 0, none⟩)) true ty).run Try.prog wr = _ := fun ty => Lib.run_next_end_at wr (w.heap.size + 1 + 1) (pt k) pos ty S.hi hp
        rw [show (letters k).take pos = letters k from List.take_of_length_le (by rw [← pt_size]; omega)] at S
        have hf := fill_form k (hasU k) (.int .i64 k) (.bool true) a v g i n
        have hS := S
        rw [hf] at hS
        have o0 : wr.cell? ⟨w.heap.size, 0, none⟩ = some _ := hS.ho.cell 0
        have o1 : wr.cell? ⟨w.heap.size, 1, none⟩ = some _ := hS.ho.cell 1
        have o2 : wr.cell? ⟨w.heap.size, 2, none⟩ = some _ := hS.ho.cell 2
        have o3 : wr.cell? ⟨w.heap.size, 3, none⟩ = some _ := hS.ho.cell 3
        have o4 : wr.cell? ⟨w.heap.size, 4, none⟩ = some _ := hS.ho.cell 4
        have o5 : wr.cell? ⟨w.heap.size, 5, none⟩ = some _ := hS.ho.cell 5
        have o6 : wr.cell? ⟨w.heap.size, 6, none⟩ = some _ := hS.ho.cell 6
        have b0 : wr.cell? ⟨w.heap.size + 1, 0, none⟩ = some _ := hS.hb.cell 0
        have b1 : wr.cell? ⟨w.heap.size + 1, 1, none⟩ = some _ := hS.hb.cell 1
        have b2 : wr.cell? ⟨w.heap.size + 1, 2, none⟩ = some _ := hS.hb.cell 2
        have b3 : wr.cell? ⟨w.heap.size + 1, 3, none⟩ = some _ := hS.hb.cell 3
        have b4 : wr.cell? ⟨w.heap.size + 1, 4, none⟩ = some _ := hS.hb.cell 4
        have b5 : wr.cell? ⟨w.heap.size + 1, 5, none⟩ = some _ := hS.hb.cell 5
        have b6 : wr.cell? ⟨w.heap.size + 1, 6, none⟩ = some _ := hS.hb.cell 6
        clear hS hf
        have hb := S.below
        clear S
        go_wp2_with fail
        all_goals go_ret
        all_goals refine ⟨?_, hb⟩
        all_goals clear o0 o1 o2 o3 o4 o5 o6 b0 b1 b2 b3 b4 b5 b6 hnx
        all_goals (simp [rightB, *] <;> first | omega | (intro z1 z2 z3 z4 z5 z6; exact absurd (And.intro z1 (And.intro z2 (And.intro z3 (And.intro z4 (And.intro z5 z6))))) (by assumption))))
/-- script.Right, for every operation. -/
theorem right_any (k : Int) (u : Bool) (a v g i n : Int) (w : World) :
    Calls Try.prog 13 #[.agg #[.int .i64 k, .bool u, .int .u64 a, .int .u64 v, .int .i64 g, .int .i64 i, .int .i64 n]] w fun e w' => e = .returned (.bool (rightB k u a v g i n)) ∧ Below w.heap.size w w' := by
  cases u
  · exact right_no k a v g i n w
  · exact right_yes k a v g i n w
end Go.Proofs.Ytmifcdmkobammaa.ScriptWalk
