/- Layer 12: the document's Right, for every operation. -/
import Derived.Test.YtmifcdmkobammaaRefR1
import Derived.Test.YtmifcdmkobammaaRefR2
import Derived.Test.YtmifcdmkobammaaRefR3
import Derived.Test.YtmifcdmkobammaaRefR4
import Derived.Outline
import Derived.RegionTactic
namespace Go.Proofs.Ytmifcdmkobammaa.ScriptWalk
open Go.RowKit Go.Proofs.Ytmifcdmkobammaa.Parts Go.Proofs.Ytmifcdmkobammaa.Blks Go.Proofs.YtmifcdmkobammaaW.PrintWords Go.Proofs.Ytmifcdmkobammaa.Q
set_option maxHeartbeats 8000000 in
set_option maxRecDepth 100000 in
theorem refRight_out0 (k : Int) (u : Bool) (a v g i n : Int) (w : World)  (h0 : k < 0) :
    Calls Try.prog 14 #[.agg #[.int .i64 k, .bool u, .int .u64 a, .int .u64 v, .int .i64 g, .int .i64 i, .int .i64 n]] w fun e w' => e = .returned (.bool false) ∧ Below w.heap.size w w' := by
  have hB : ∀ o, Below w.heap.size w (w.alloc o) := fun o => (Below.refl _ _).alloc (Nat.le_refl _) o
  go_enter Try.func14, Try.ntmps14
  go_wp2_with fail
  go_ret
  exact ⟨rfl, hB _⟩
set_option maxHeartbeats 8000000 in
set_option maxRecDepth 100000 in
theorem refRight_out1 (k : Int) (u : Bool) (a v g i n : Int) (w : World) (h0 : 0 ≤ k) (h1 : 8 < k) :
    Calls Try.prog 14 #[.agg #[.int .i64 k, .bool u, .int .u64 a, .int .u64 v, .int .i64 g, .int .i64 i, .int .i64 n]] w fun e w' => e = .returned (.bool false) ∧ Below w.heap.size w w' := by
  have hB : ∀ o, Below w.heap.size w (w.alloc o) := fun o => (Below.refl _ _).alloc (Nat.le_refl _) o
  go_enter Try.func14, Try.ntmps14
  go_wp2_with fail
  go_ret
  exact ⟨rfl, hB _⟩
set_option maxHeartbeats 8000000 in
set_option maxRecDepth 100000 in
theorem refRight_out2 (k : Int) (u : Bool) (a v g i n : Int) (w : World) (h0 : 0 ≤ k) (h1 : k ≤ 8) (h2 : g < 0) :
    Calls Try.prog 14 #[.agg #[.int .i64 k, .bool u, .int .u64 a, .int .u64 v, .int .i64 g, .int .i64 i, .int .i64 n]] w fun e w' => e = .returned (.bool false) ∧ Below w.heap.size w w' := by
  have hB : ∀ o, Below w.heap.size w (w.alloc o) := fun o => (Below.refl _ _).alloc (Nat.le_refl _) o
  go_enter Try.func14, Try.ntmps14
  go_wp2_with fail
  go_ret
  exact ⟨rfl, hB _⟩
set_option maxHeartbeats 8000000 in
set_option maxRecDepth 100000 in
theorem refRight_out3 (k : Int) (u : Bool) (a v g i n : Int) (w : World) (h0 : 0 ≤ k) (h1 : k ≤ 8) (h2 : 0 ≤ g) (h3 : 255 < g) :
    Calls Try.prog 14 #[.agg #[.int .i64 k, .bool u, .int .u64 a, .int .u64 v, .int .i64 g, .int .i64 i, .int .i64 n]] w fun e w' => e = .returned (.bool false) ∧ Below w.heap.size w w' := by
  have hB : ∀ o, Below w.heap.size w (w.alloc o) := fun o => (Below.refl _ _).alloc (Nat.le_refl _) o
  go_enter Try.func14, Try.ntmps14
  go_wp2_with fail
  go_ret
  exact ⟨rfl, hB _⟩
set_option maxHeartbeats 8000000 in
set_option maxRecDepth 100000 in
theorem refRight_out4 (k : Int) (u : Bool) (a v g i n : Int) (w : World) (h0 : 0 ≤ k) (h1 : k ≤ 8) (h2 : 0 ≤ g) (h3 : g ≤ 255) (h4 : n < 0) :
    Calls Try.prog 14 #[.agg #[.int .i64 k, .bool u, .int .u64 a, .int .u64 v, .int .i64 g, .int .i64 i, .int .i64 n]] w fun e w' => e = .returned (.bool false) ∧ Below w.heap.size w w' := by
  have hB : ∀ o, Below w.heap.size w (w.alloc o) := fun o => (Below.refl _ _).alloc (Nat.le_refl _) o
  go_enter Try.func14, Try.ntmps14
  go_wp2_with fail
  go_ret
  exact ⟨rfl, hB _⟩
set_option maxHeartbeats 8000000 in
set_option maxRecDepth 100000 in
theorem refRight_out5 (k : Int) (u : Bool) (a v g i n : Int) (w : World) (h0 : 0 ≤ k) (h1 : k ≤ 8) (h2 : 0 ≤ g) (h3 : g ≤ 255) (h4 : 0 ≤ n) (h5 : 255 < n) :
    Calls Try.prog 14 #[.agg #[.int .i64 k, .bool u, .int .u64 a, .int .u64 v, .int .i64 g, .int .i64 i, .int .i64 n]] w fun e w' => e = .returned (.bool false) ∧ Below w.heap.size w w' := by
  have hB : ∀ o, Below w.heap.size w (w.alloc o) := fun o => (Below.refl _ _).alloc (Nat.le_refl _) o
  go_enter Try.func14, Try.ntmps14
  go_wp2_with fail
  go_ret
  exact ⟨rfl, hB _⟩
set_option maxHeartbeats 8000000 in
set_option maxRecDepth 100000 in
theorem refRight_out6 (k : Int) (u : Bool) (a v g i n : Int) (w : World) (h0 : 0 ≤ k) (h1 : k ≤ 8) (h2 : 0 ≤ g) (h3 : g ≤ 255) (h4 : 0 ≤ n) (h5 : n ≤ 255) (h6 : i < 0) :
    Calls Try.prog 14 #[.agg #[.int .i64 k, .bool u, .int .u64 a, .int .u64 v, .int .i64 g, .int .i64 i, .int .i64 n]] w fun e w' => e = .returned (.bool false) ∧ Below w.heap.size w w' := by
  have hB : ∀ o, Below w.heap.size w (w.alloc o) := fun o => (Below.refl _ _).alloc (Nat.le_refl _) o
  go_enter Try.func14, Try.ntmps14
  go_wp2_with fail
  go_ret
  exact ⟨rfl, hB _⟩
set_option maxHeartbeats 8000000 in
set_option maxRecDepth 100000 in
theorem refRight_out7 (k : Int) (u : Bool) (a v g i n : Int) (w : World) (h0 : 0 ≤ k) (h1 : k ≤ 8) (h2 : 0 ≤ g) (h3 : g ≤ 255) (h4 : 0 ≤ n) (h5 : n ≤ 255) (h6 : 0 ≤ i) (h7 : 7 < i) :
    Calls Try.prog 14 #[.agg #[.int .i64 k, .bool u, .int .u64 a, .int .u64 v, .int .i64 g, .int .i64 i, .int .i64 n]] w fun e w' => e = .returned (.bool false) ∧ Below w.heap.size w w' := by
  have hB : ∀ o, Below w.heap.size w (w.alloc o) := fun o => (Below.refl _ _).alloc (Nat.le_refl _) o
  go_enter Try.func14, Try.ntmps14
  go_wp2_with fail
  go_ret
  exact ⟨rfl, hB _⟩
theorem refRight_any (k : Int) (u : Bool) (a v g i n : Int) (w : World) :
    Calls Try.prog 14 #[.agg #[.int .i64 k, .bool u, .int .u64 a, .int .u64 v, .int .i64 g, .int .i64 i, .int .i64 n]] w fun e w' => e = .returned (.bool (refRightB k u a v g i n)) ∧ Below w.heap.size w w' := by
  by_cases h0 : 0 ≤ k
  rotate_left
  · have e : refRightB k u a v g i n = false := by simp [refRightB]; omega
    rw [e]; exact refRight_out0 k u a v g i n w  (by omega)
  by_cases h1 : k ≤ 8
  rotate_left
  · have e : refRightB k u a v g i n = false := by simp [refRightB]; omega
    rw [e]; exact refRight_out1 k u a v g i n w h0 (by omega)
  by_cases h2 : 0 ≤ g
  rotate_left
  · have e : refRightB k u a v g i n = false := by simp [refRightB]; omega
    rw [e]; exact refRight_out2 k u a v g i n w h0 h1 (by omega)
  by_cases h3 : g ≤ 255
  rotate_left
  · have e : refRightB k u a v g i n = false := by simp [refRightB]; omega
    rw [e]; exact refRight_out3 k u a v g i n w h0 h1 h2 (by omega)
  by_cases h4 : 0 ≤ n
  rotate_left
  · have e : refRightB k u a v g i n = false := by simp [refRightB]; omega
    rw [e]; exact refRight_out4 k u a v g i n w h0 h1 h2 h3 (by omega)
  by_cases h5 : n ≤ 255
  rotate_left
  · have e : refRightB k u a v g i n = false := by simp [refRightB]; omega
    rw [e]; exact refRight_out5 k u a v g i n w h0 h1 h2 h3 h4 (by omega)
  by_cases h6 : 0 ≤ i
  rotate_left
  · have e : refRightB k u a v g i n = false := by simp [refRightB]; omega
    rw [e]; exact refRight_out6 k u a v g i n w h0 h1 h2 h3 h4 h5 (by omega)
  by_cases h7 : i ≤ 7
  rotate_left
  · have e : refRightB k u a v g i n = false := by simp [refRightB]; omega
    rw [e]; exact refRight_out7 k u a v g i n w h0 h1 h2 h3 h4 h5 h6 (by omega)
  cases u
  · by_cases ha : a = 0
    · subst ha; exact refRight_1 k v g i n w h0 h1 h2 h3 h4 h5 h6 h7
    · exact refRight_2 k a v g i n w h0 h1 h2 h3 h4 h5 h6 h7 ha
  · by_cases ha : a = 0
    · subst ha; exact refRight_3 k v g i n w h0 h1 h2 h3 h4 h5 h6 h7
    · exact refRight_4 k a v g i n w h0 h1 h2 h3 h4 h5 h6 h7 ha
/-- The document's Right, in the print's words. -/
def silhouetteref12_Right.f (a0_0 : Int) (a0_1 : Bool) (a0_2 : Int) (a0_3 : Int) (a0_4 : Int) (a0_5 : Int) (a0_6 : Int) : Option Bool := some (refRightB a0_0 a0_1 a0_2 a0_3 a0_4 a0_5 a0_6)
theorem silhouetteref12_Right.calls (a0_0 : Int) (a0_1 : Bool) (a0_2 : Int) (a0_3 : Int) (a0_4 : Int) (a0_5 : Int) (a0_6 : Int) (r : Bool) (w : World) (h : silhouetteref12_Right.f a0_0 a0_1 a0_2 a0_3 a0_4 a0_5 a0_6 = some r) :
    Calls Try.prog 14 #[.agg #[.int .i64 a0_0, .bool a0_1, .int .u64 a0_2, .int .u64 a0_3, .int .i64 a0_4, .int .i64 a0_5, .int .i64 a0_6]] w fun e w' => e = .returned (.bool r) ∧ Below w.heap.size w w' := by
  obtain rfl := Option.some.inj h
  exact refRight_any a0_0 a0_1 a0_2 a0_3 a0_4 a0_5 a0_6 w
end Go.Proofs.Ytmifcdmkobammaa.ScriptWalk
