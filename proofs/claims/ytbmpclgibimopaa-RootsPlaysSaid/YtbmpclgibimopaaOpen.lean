/- Layer 18: arguments that are ints, bytes and slices of ints, opened to plain values. -/
import Derived.Test.YtbmpclgibimopaaSt
import Derived.Deep.Slices
import Derived.Deep.Fields
import Derived.ChangeSame
import Derived.ChangeSlices
import Derived.Lib.SmallJoins
namespace Go.Proofs.Ytbmpclgibimopaa.Open
open Go.ChangeShapes Go.WideShapes Go.Deep Go.Joins
open Go.RowKit Go.Proofs.YtbmpclgibimopaaW.PrintWords Go.Proofs.YtbmpclgibimopaaW.PrintLast Go.Proofs.YtbmpclgibimopaaW.PrintMore
variable {H : Type} {enc : TypeId × Value → H} {w : World} {base : Nat} {spare : Nat → Bool} {held : Bool}
theorem wf_u8 {n : Int} (h : (Lit.int .u8 n).wf = true) : 0 ≤ n ∧ n < 256 := by
  simp [Lit.wf, IntKind.min, IntKind.max, IntKind.bits, IntKind.signed] at h; omega
theorem wf_u16 {n : Int} (h : (Lit.int .u16 n).wf = true) : 0 ≤ n ∧ n < 65536 := by
  simp [Lit.wf, IntKind.min, IntKind.max, IntKind.bits, IntKind.signed] at h; omega
theorem wf_i64 {n : Int} (h : (Lit.int .i64 n).wf = true) : -9223372036854775808 ≤ n ∧ n < 9223372036854775808 := by
  simp [Lit.wf, IntKind.min, IntKind.max, IntKind.bits, IntKind.signed] at h; omega
/-- A slice of ints, nil let in. -/
theorem open_intlist {t : TypeId} (ht : Try.prog.underlying t = some (.slice 3)) {A : Option Addr} {len cap : Nat} {d : DataW H} {p : List MemPlace} (h : DataW.Trod enc Try.prog w base spare held t (.slice A len cap) d p) :
    ∃ l : List Int, l.length = len ∧ (∀ y ∈ l, -9223372036854775808 ≤ y ∧ y < 9223372036854775808) ∧ (Kd.C (Kd.int .i64) w A l.length l ∧ l.length ≤ cap) := by
  obtain ⟨fuel, hf⟩ := h
  rcases open_ints ht Try.underlying3 (by kernel_rfl) hf with ⟨hcs, _⟩ | ⟨a, len', cap', zs, hcs, _, hlc, hcm, hzl, _, hcell, hwf⟩
  · simp [Value.cells] at hcs
    obtain ⟨rfl, rfl, rfl⟩ := hcs
    refine ⟨[], rfl, ?_, ⟨rfl, by simp, fun h => absurd h (by simp)⟩, by simp⟩
    intro y hy; cases hy
  · simp [Value.cells] at hcs
    obtain ⟨rfl, rfl, rfl⟩ := hcs
    have hle : len ≤ zs.length := by rw [hzl]; split <;> omega
    have htl : (zs.take len).length = len := by rw [List.length_take]; omega
    unfold maxLen at hcm
    refine ⟨zs.take len, htl, fun y hy => wf_i64 (hwf y (List.mem_of_mem_take hy)), ?_, by omega⟩
    rw [htl]
    refine Kd.C_of_reads (enc := Value.int .i64) (d := (0 : Int)) (h1 := fun _ => rfl) ⟨htl, by omega, fun _ => ⟨a, rfl, fun j hj => ?_⟩⟩
    rw [hcell j (by omega), List.getD_eq_getElem?_getD, List.getD_eq_getElem?_getD, List.getElem?_take, if_pos hj]
end Go.Proofs.Ytbmpclgibimopaa.Open
