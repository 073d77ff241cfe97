/- Layer 12: the letters of an operation's parts, and the contracts of parts, part and strings.ContainsRune as they are called; for every input. -/
import Derived.Test.YtmifcdmkobammaaShelf
import Derived.WalkKit
import Derived.WalkLawsBesides
import Derived.WalkSpells
import Derived.KernelRfl
import Derived.Deep.QuietTactic
import Derived.BigQuiet
namespace Go.Proofs.Ytmifcdmkobammaa.Parts
open Go.RowKit
/-- The letters of a kind's parts. -/
def letters (k : Int) : List UInt8 :=
  if k = 0 then [117, 65] else if k = 1 then [117, 65, 86] else if k = 2 then [117, 65] else if k = 3 then [65] else if k = 4 then [71] else if k = 5 then [71, 73, 86] else if k = 6 then [78] else if k = 7 then [65] else if k = 8 then [78] else []
def pt (k : Int) : ByteArray := ⟨(letters k).toArray⟩
/-- Has a kind the part u? -/
def hasU (k : Int) : Bool := (letters k).contains 117
theorem kinds (k : Int) : k = 0 ∨ k = 1 ∨ k = 2 ∨ k = 3 ∨ k = 4 ∨ k = 5 ∨ k = 6 ∨ k = 7 ∨ k = 8 ∨ (k < 0 ∨ 8 < k) := by omega
theorem letters_no {k : Int} (h : k < 0 ∨ 8 < k) : letters k = [] := by
  unfold letters
  rw [if_neg (by omega), if_neg (by omega), if_neg (by omega), if_neg (by omega), if_neg (by omega), if_neg (by omega), if_neg (by omega), if_neg (by omega), if_neg (by omega)]
set_option maxHeartbeats 8000000 in
set_option maxRecDepth 100000 in
theorem parts_no (k : Int) (h : k < 0 ∨ 8 < k) (w : World) :
    Calls Try.prog 22 #[.int .i64 k] w fun e w' => e = .returned (.string ⟨#[]⟩) ∧ w' = w := by
  have h0 : (k == 0) = false := beq_eq_false_iff_ne.2 (by omega)
  have h1 : (k == 1) = false := beq_eq_false_iff_ne.2 (by omega)
  have h2 : (k == 2) = false := beq_eq_false_iff_ne.2 (by omega)
  have h3 : (k == 3) = false := beq_eq_false_iff_ne.2 (by omega)
  have h4 : (k == 4) = false := beq_eq_false_iff_ne.2 (by omega)
  have h5 : (k == 5) = false := beq_eq_false_iff_ne.2 (by omega)
  have h6 : (k == 6) = false := beq_eq_false_iff_ne.2 (by omega)
  have h7 : (k == 7) = false := beq_eq_false_iff_ne.2 (by omega)
  have h8 : (k == 8) = false := beq_eq_false_iff_ne.2 (by omega)
  clear h
  go_enter Try.func22, Try.ntmps22
  go_wp2
  go_ret
  exact ⟨rfl, rfl⟩
set_option maxHeartbeats 8000000 in
set_option maxRecDepth 100000 in
theorem parts_any (k : Int) (w : World) : Calls Try.prog 22 #[.int .i64 k] w fun e w' => e = .returned (.string (pt k)) ∧ w' = w := by
  rcases kinds k with rfl | rfl | rfl | rfl | rfl | rfl | rfl | rfl | rfl | h
  iterate 9
    · go_enter Try.func22, Try.ntmps22
      go_wp2
      go_ret
      exact ⟨rfl, rfl⟩
  · have e : pt k = ⟨#[]⟩ := by unfold pt; rw [letters_no h]
    rw [e]
    exact parts_no k h w
theorem contains_any (k : Int) (w : World) : Calls Try.prog 23 #[.string (pt k), .int .i32 117] w fun e w' => e = .returned (.bool (hasU k)) ∧ w' = w := by
  refine (Try.strings_ContainsRune_ascii (pt k) 117 w (by omega) (by omega)).mono fun e w' h => ⟨?_, h.2⟩
  rw [h.1]; congr 2
  rcases kinds k with rfl | rfl | rfl | rfl | rfl | rfl | rfl | rfl | rfl | h
  iterate 9 · decide +kernel
  · unfold hasU pt; rw [letters_no h]; decide +kernel
/-- Which cell of an operation a letter names. -/
def cellOf (c : UInt8) : Option Nat := if c = 65 then some 2 else if c = 86 then some 3 else if c = 71 then some 4 else if c = 73 then some 5 else if c = 78 then some 6 else none
set_option maxHeartbeats 8000000 in
set_option maxRecDepth 100000 in
theorem part_u (g : Nat) (w : World) : Calls Try.prog 24 #[.pointer (some ⟨g, 0, none⟩), .int .i32 117] w fun e w' => e = .returned (.tuple #[.pointer none, .pointer none]) ∧ ∃ n, w' = w.drewN n := by
  go_enter Try.func24, Try.ntmps24
  go_wp2
  go_ret2
  exact ⟨rfl, 0, rfl⟩
set_option maxHeartbeats 8000000 in
set_option maxRecDepth 100000 in
theorem part_A (g : Nat) (w : World) : Calls Try.prog 24 #[.pointer (some ⟨g, 0, none⟩), .int .i32 65] w fun e w' => e = .returned (.tuple #[.pointer (some ⟨g, 2, none⟩), .pointer none]) ∧ ∃ n, w' = w.drewN n := by
  go_enter Try.func24, Try.ntmps24
  go_wp2
  go_ret2
  exact ⟨rfl, 0, rfl⟩
set_option maxHeartbeats 8000000 in
set_option maxRecDepth 100000 in
theorem part_V (g : Nat) (w : World) : Calls Try.prog 24 #[.pointer (some ⟨g, 0, none⟩), .int .i32 86] w fun e w' => e = .returned (.tuple #[.pointer (some ⟨g, 3, none⟩), .pointer none]) ∧ ∃ n, w' = w.drewN n := by
  go_enter Try.func24, Try.ntmps24
  go_wp2
  go_ret2
  exact ⟨rfl, 0, rfl⟩
set_option maxHeartbeats 8000000 in
set_option maxRecDepth 100000 in
theorem part_G (g : Nat) (w : World) : Calls Try.prog 24 #[.pointer (some ⟨g, 0, none⟩), .int .i32 71] w fun e w' => e = .returned (.tuple #[.pointer none, .pointer (some ⟨g, 4, none⟩)]) ∧ ∃ n, w' = w.drewN n := by
  go_enter Try.func24, Try.ntmps24
  go_wp2
  go_quiet (fail)
  go_wp2
  go_ret2
  exact ⟨rfl, _, rfl⟩
set_option maxHeartbeats 8000000 in
set_option maxRecDepth 100000 in
theorem part_I (g : Nat) (w : World) : Calls Try.prog 24 #[.pointer (some ⟨g, 0, none⟩), .int .i32 73] w fun e w' => e = .returned (.tuple #[.pointer none, .pointer (some ⟨g, 5, none⟩)]) ∧ ∃ n, w' = w.drewN n := by
  go_enter Try.func24, Try.ntmps24
  go_wp2
  go_quiet (fail)
  go_wp2
  go_ret2
  exact ⟨rfl, _, rfl⟩
set_option maxHeartbeats 8000000 in
set_option maxRecDepth 100000 in
theorem part_N (g : Nat) (w : World) : Calls Try.prog 24 #[.pointer (some ⟨g, 0, none⟩), .int .i32 78] w fun e w' => e = .returned (.tuple #[.pointer none, .pointer (some ⟨g, 6, none⟩)]) ∧ ∃ n, w' = w.drewN n := by
  go_enter Try.func24, Try.ntmps24
  go_wp2
  go_quiet (fail)
  go_wp2
  go_ret2
  exact ⟨rfl, _, rfl⟩
theorem letters_mem (k : Int) : ∀ c ∈ letters k, c = 117 ∨ c = 65 ∨ c = 86 ∨ c = 71 ∨ c = 73 ∨ c = 78 := by
  rcases kinds k with rfl | rfl | rfl | rfl | rfl | rfl | rfl | rfl | rfl | h
  iterate 9 · decide
  · rw [letters_no h]; intro c hc; cases hc
theorem pt_size (k : Int) : (pt k).size = (letters k).length := by simp [pt, ByteArray.size]
theorem pt_at (k : Int) (pos : Nat) (h : pos < (pt k).size) : (pt k)[pos] = (letters k)[pos]'(by rw [← pt_size]; exact h) := by
  show (pt k).data[pos] = _
  simp [pt]
theorem letter_cases (k : Int) (pos : Nat) (h : pos < (pt k).size) : (pt k)[pos] = 117 ∨ (pt k)[pos] = 65 ∨ (pt k)[pos] = 86 ∨ (pt k)[pos] = 71 ∨ (pt k)[pos] = 73 ∨ (pt k)[pos] = 78 := by
  rw [pt_at k pos h]
  exact letters_mem k _ (List.getElem_mem _)
theorem take_next (k : Int) (pos : Nat) (h : pos < (pt k).size) : (letters k).take (pos + 1) = (letters k).take pos ++ [(pt k)[pos]] := by
  rw [pt_at k pos h, List.take_succ_eq_append_getElem (by rw [← pt_size]; exact h)]
end Go.Proofs.Ytmifcdmkobammaa.Parts
