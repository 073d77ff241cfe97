/- Layer 12: arguments that are operations, slices of them and bytes, opened to plain values. -/
import Derived.Test.YtmifcdmkobammaaQx0
import Derived.Deep.Slices
import Derived.Deep.Fields
import Derived.ChangeSame
import Derived.ChangeSlices
import Derived.Lib.SmallJoins
namespace Go.Proofs.Ytmifcdmkobammaa.Open
open Go.ChangeShapes Go.WideShapes Go.Deep Go.Joins
open Go.RowKit Go.Proofs.Ytmifcdmkobammaa.Q Go.Proofs.YtmifcdmkobammaaW.PrintWords Go.Proofs.YtmifcdmkobammaaW.PrintLast Go.Proofs.YtmifcdmkobammaaW.PrintMore
section
variable {H : Type} {enc : TypeId × Value → H} {P : Program} {w : World} {base : Nat} {spare : Nat → Bool} {held : Bool}
/-- A slice of structs of one-cell fields: each field's cell, with its own reading. -/
theorem open_slice_fields {t e : TypeId} {fs : Array Field} {fuel : Nat} {cs : List Value} {x : DataW H × List MemPlace} (ht : P.underlying t = some (.slice e)) (he : P.underlying e = some (.struct fs))
    (hone : oneCellFields P fs = true) (hC : P.cellsOf e = fs.size) (h : DataW.trod enc P w base spare held fuel t cs = some x) :
    (cs = [.slice none 0 0]) ∨
    ∃ (a : Addr) (len cap : Nat), cs = [.slice (some a) len cap] ∧ len ≤ cap ∧ cap ≤ maxLen ∧
      ∀ i, i < len → ∀ (j : Nat) (f : Field), fs[j]? = some f → ∃ (v : Value) (y : DataW H × List MemPlace) (n : Nat), w.cell? (a.add (i * fs.size + j)) = some v ∧ DataW.trod enc P w base spare held n f.type [v] = some y := by
  rcases open_slice ht h with h0 | ⟨a, len, cap, m, n, D, Pl, hcs, hb, hl, hm, hmm, hx, hi⟩
  · exact .inl h0.1
  · refine .inr ⟨a, len, cap, hcs, hl, hm, fun i him => ?_⟩
    have him' : i < m := by rw [hmm]; split <;> omega
    obtain ⟨cs', hc, ht'⟩ := hi i him'
    rw [hC] at hc
    obtain ⟨ys, n', hn', hy, hlen, hyl, hf⟩ := DataW.trod_struct he ht'
    obtain ⟨_, hcl, hat⟩ := World.cells?_some hc
    intro j f hj
    obtain ⟨ho, hk⟩ := hone_of hone j f hj
    have hjl : j < fs.size := (Array.getElem?_eq_some_iff.1 hj).1
    have hcell := hat j hjl
    have hv : cs'[j]? = some (cs'[j]'(by omega)) := List.getElem?_eq_getElem (by omega)
    have h1 := hf j f hj
    rw [ho, hk] at h1
    have hone' : (cs'.drop j).take 1 = [cs'[j]'(by omega)] := by
      rw [List.drop_eq_getElem_cons (by omega)]
      rfl
    rw [hone'] at h1
    have hys : ys[j]? = some (ys[j]'(by omega)) := List.getElem?_eq_getElem (by omega)
    refine ⟨_, _, n', ?_, h1.trans hys⟩
    rw [← Go.Deep.add_add, hcell, hv]
/-- A struct of one-cell fields by value: each field with its own reading. -/
theorem open_agg_any {r : Reach} {b0 : Nat} {t : TypeId} {fs : Array Field} {v : Value} {d : DataW H} {p : List MemPlace} (hs : P.underlying t = some (.struct fs)) (hone : oneCellFields P fs = true) (hC : P.cellsOf t = fs.size)
    (hv : Value.okWide P w r b0 t v) (h : DataW.Trod enc P w base spare held t v d p) :
    ∃ l : List Value, v = .agg l.toArray ∧ l.length = fs.size ∧ ∀ (j : Nat) (f : Field), fs[j]? = some f → ∃ (u : Value) (y : DataW H × List MemPlace) (n : Nat), l[j]? = some u ∧ DataW.trod enc P w base spare held n f.type [u] = some y := by
  obtain ⟨cs, rfl, hsz⟩ := okWide_struct hs hv
  obtain ⟨l⟩ := cs
  have hl : l.length = fs.size := hsz.trans hC
  refine ⟨l, rfl, hl, fun j f hj => ?_⟩
  obtain ⟨fuel, hf⟩ := h
  obtain ⟨xs, n, _, hx, _, hlen, hg⟩ := DataW.trod_struct hs hf
  obtain ⟨ho, hk⟩ := hone_of hone j f hj
  have hjl : j < fs.size := (Array.getElem?_eq_some_iff.1 hj).1
  have h1 := hg j f hj
  rw [ho, hk] at h1
  have hv1 : l[j]? = some (l[j]'(by omega)) := List.getElem?_eq_getElem (by omega)
  have hone' : ((Value.agg l.toArray).cells.toList.drop j).take 1 = [l[j]'(by omega)] := by
    have e : (Value.agg l.toArray).cells.toList = l := by simp [Value.cells]
    rw [e, List.drop_eq_getElem_cons (by omega)]
    rfl
  have hxs : xs[j]? = some (xs[j]'(by omega)) := List.getElem?_eq_getElem (by omega)
  rw [hone'] at h1
  exact ⟨l[j]'(by omega), xs[j]'(by omega), n, hv1, h1.trans hxs⟩
end
/-- From a way to choose one element at a time to the list of all. -/
theorem list_of {α : Type} {Q : Nat → α → Prop} (n : Nat) (h : ∀ i, i < n → ∃ x, Q i x) : ∃ l : List α, l.length = n ∧ ∀ i x, l[i]? = some x → Q i x := by
  induction n with
  | zero => exact ⟨[], rfl, fun i x hx => by simp at hx⟩
  | succ n ih =>
    obtain ⟨l, hl, hq⟩ := ih (fun i hi => h i (by omega))
    obtain ⟨x, hx⟩ := h n (by omega)
    refine ⟨l ++ [x], by simp [hl], fun i y hy => ?_⟩
    rcases Nat.lt_or_ge i n with hi | hi
    · rw [List.getElem?_append_left (by omega)] at hy
      exact hq i y hy
    · rw [List.getElem?_append_right (by omega), hl] at hy
      have : i - n = 0 := by
        rcases Nat.eq_zero_or_pos (i - n) with h0 | h0
        · exact h0
        · rw [List.getElem?_eq_none (by simp; omega)] at hy; cases hy
      have hin : i = n := by omega
      subst hin
      rw [this] at hy
      simp at hy
      subst hy
      exact hx

variable {H : Type} {enc : TypeId × Value → H} {w : World} {base : Nat} {spare : Nat → Bool} {held : Bool}
theorem wf_u64 {n : Int} (h : (Lit.int .u64 n).wf = true) : 0 ≤ n ∧ n < 18446744073709551616 := by
  simp [Lit.wf, IntKind.min, IntKind.max, IntKind.bits, IntKind.signed] at h; omega
theorem wf_u8 {n : Int} (h : (Lit.int .u8 n).wf = true) : 0 ≤ n ∧ n < 256 := by
  simp [Lit.wf, IntKind.min, IntKind.max, IntKind.bits, IntKind.signed] at h; omega
theorem wf_u16 {n : Int} (h : (Lit.int .u16 n).wf = true) : 0 ≤ n ∧ n < 65536 := by
  simp [Lit.wf, IntKind.min, IntKind.max, IntKind.bits, IntKind.signed] at h; omega
theorem wf_i64 {n : Int} (h : (Lit.int .i64 n).wf = true) : -9223372036854775808 ≤ n ∧ n < 9223372036854775808 := by
  simp [Lit.wf, IntKind.min, IntKind.max, IntKind.bits, IntKind.signed] at h; omega
/-- An operation's numbers are of their types. -/
def Fit (o : S31) : Prop := (-9223372036854775808 ≤ o.f0 ∧ o.f0 < 9223372036854775808) ∧ (0 ≤ o.f2 ∧ o.f2 < 18446744073709551616) ∧ (0 ≤ o.f3 ∧ o.f3 < 18446744073709551616) ∧ (-9223372036854775808 ≤ o.f4 ∧ o.f4 < 9223372036854775808) ∧ (-9223372036854775808 ≤ o.f5 ∧ o.f5 < 9223372036854775808) ∧ (-9223372036854775808 ≤ o.f6 ∧ o.f6 < 9223372036854775808)
theorem cells31 : Try.prog.cellsOf 31 = 7 := by kernel_rfl
theorem open_op {r : Reach} {b0 : Nat} {v : Value} {d : DataW H} {p : List MemPlace} (hv : Value.okWide Try.prog w r b0 31 v) (h : DataW.Trod enc Try.prog w base spare held 31 v d p) :
    ∃ o : S31, Fit o ∧ v = .agg #[.int .i64 o.f0, .bool o.f1, .int .u64 o.f2, .int .u64 o.f3, .int .i64 o.f4, .int .i64 o.f5, .int .i64 o.f6] := by
  obtain ⟨l, rfl, hl, hf⟩ := open_agg_any Try.underlying31 (by kernel_rfl) cells31 hv h
  obtain ⟨u0, y0, n0, h0, t0⟩ := hf 0 _ rfl
  obtain ⟨u1, y1, n1, h1, t1⟩ := hf 1 _ rfl
  obtain ⟨u2, y2, n2, h2, t2⟩ := hf 2 _ rfl
  obtain ⟨u3, y3, n3, h3, t3⟩ := hf 3 _ rfl
  obtain ⟨u4, y4, n4, h4, t4⟩ := hf 4 _ rfl
  obtain ⟨u5, y5, n5, h5, t5⟩ := hf 5 _ rfl
  obtain ⟨u6, y6, n6, h6, t6⟩ := hf 6 _ rfl
  obtain ⟨x0, e0, _, g0⟩ := DataW.trod_int Try.underlying3 t0
  obtain ⟨x1, e1, _⟩ := DataW.trod_bool Try.underlying4 t1
  obtain ⟨x2, e2, _, g2⟩ := DataW.trod_int Try.underlying29 t2
  obtain ⟨x3, e3, _, g3⟩ := DataW.trod_int Try.underlying29 t3
  obtain ⟨x4, e4, _, g4⟩ := DataW.trod_int Try.underlying3 t4
  obtain ⟨x5, e5, _, g5⟩ := DataW.trod_int Try.underlying3 t5
  obtain ⟨x6, e6, _, g6⟩ := DataW.trod_int Try.underlying3 t6
  simp only [List.cons.injEq, and_true] at e0 e1 e2 e3 e4 e5 e6
  subst e0 e1 e2 e3 e4 e5 e6
  refine ⟨⟨x0, x1, x2, x3, x4, x5, x6⟩, ⟨wf_i64 g0, wf_u64 g2, wf_u64 g3, wf_i64 g4, wf_i64 g5, wf_i64 g6⟩, ?_⟩
  have hl7 : l.length = 7 := hl
  match l, hl7 with
  | [c0, c1, c2, c3, c4, c5, c6], _ =>
    simp at h0 h1 h2 h3 h4 h5 h6
    subst h0 h1 h2 h3 h4 h5 h6
    rfl
/-- A slice of operations, nil let in. -/
theorem open_ops {t : TypeId} (ht : Try.prog.underlying t = some (.slice 31)) {A : Option Addr} {len cap : Nat} {d : DataW H} {p : List MemPlace} (h : DataW.Trod enc Try.prog w base spare held t (.slice A len cap) d p) :
    ∃ l : List S31, l.length = len ∧ (∀ o ∈ l, Fit o) ∧ (Kd.C k31 w A l.length l ∧ l.length ≤ cap) := by
  obtain ⟨fuel, hf⟩ := h
  rcases open_slice_fields ht Try.underlying31 (by kernel_rfl) cells31 hf with hcs | ⟨a, len', cap', hcs, hlc, hcm, hi⟩
  · simp [Value.cells] at hcs
    obtain ⟨rfl, rfl, rfl⟩ := hcs
    refine ⟨[], rfl, ?_, ⟨rfl, by simp, fun h => absurd h (by simp)⟩, by simp⟩
    intro o ho; cases ho
  · simp [Value.cells] at hcs
    obtain ⟨rfl, rfl, rfl⟩ := hcs
    have hex : ∀ i, i < len → ∃ x : S31, Fit x ∧ w.cell? (a.add (i * 7)) = some (.int .i64 x.f0) ∧ w.cell? (a.add (i * 7 + 1)) = some (.bool x.f1) ∧ w.cell? (a.add (i * 7 + 2)) = some (.int .u64 x.f2) ∧ w.cell? (a.add (i * 7 + 3)) = some (.int .u64 x.f3) ∧ w.cell? (a.add (i * 7 + 4)) = some (.int .i64 x.f4) ∧ w.cell? (a.add (i * 7 + 5)) = some (.int .i64 x.f5) ∧ w.cell? (a.add (i * 7 + 6)) = some (.int .i64 x.f6) := by
      intro i hil
      obtain ⟨u0, y0, n0, h0, t0⟩ := hi i hil 0 _ rfl
      obtain ⟨u1, y1, n1, h1, t1⟩ := hi i hil 1 _ rfl
      obtain ⟨u2, y2, n2, h2, t2⟩ := hi i hil 2 _ rfl
      obtain ⟨u3, y3, n3, h3, t3⟩ := hi i hil 3 _ rfl
      obtain ⟨u4, y4, n4, h4, t4⟩ := hi i hil 4 _ rfl
      obtain ⟨u5, y5, n5, h5, t5⟩ := hi i hil 5 _ rfl
      obtain ⟨u6, y6, n6, h6, t6⟩ := hi i hil 6 _ rfl
      obtain ⟨x0, e0, _, g0⟩ := DataW.trod_int Try.underlying3 t0
      obtain ⟨x1, e1, _⟩ := DataW.trod_bool Try.underlying4 t1
      obtain ⟨x2, e2, _, g2⟩ := DataW.trod_int Try.underlying29 t2
      obtain ⟨x3, e3, _, g3⟩ := DataW.trod_int Try.underlying29 t3
      obtain ⟨x4, e4, _, g4⟩ := DataW.trod_int Try.underlying3 t4
      obtain ⟨x5, e5, _, g5⟩ := DataW.trod_int Try.underlying3 t5
      obtain ⟨x6, e6, _, g6⟩ := DataW.trod_int Try.underlying3 t6
      simp only [List.cons.injEq, and_true] at e0 e1 e2 e3 e4 e5 e6
      subst e0 e1 e2 e3 e4 e5 e6
      exact ⟨⟨x0, x1, x2, x3, x4, x5, x6⟩, ⟨wf_i64 g0, wf_u64 g2, wf_u64 g3, wf_i64 g4, wf_i64 g5, wf_i64 g6⟩, h0, h1, h2, h3, h4, h5, h6⟩
    obtain ⟨l, hl, hq⟩ := list_of len hex
    subst hl
    unfold maxLen at hcm
    refine ⟨l, rfl, fun o ho => ?_, ⟨rfl, by omega, fun _ => ⟨a, rfl, fun j x hx => ?_⟩⟩, hlc⟩
    · obtain ⟨i, hil, e⟩ := List.getElem_of_mem ho
      exact (hq i o (by rw [← e]; exact List.getElem?_eq_getElem hil)).1
    obtain ⟨_, q0, q1, q2, q3, q4, q5, q6⟩ := hq j x hx
    refine ⟨[.int .i64 x.f0, .bool x.f1, .int .u64 x.f2, .int .u64 x.f3, .int .i64 x.f4, .int .i64 x.f5, .int .i64 x.f6], rfl, k31_mk w x, fun i u hu => ?_⟩
    match i, hu with
    | 0, hu => simp at hu; subst hu; exact q0
    | 1, hu => simp at hu; subst hu; exact q1
    | 2, hu => simp at hu; subst hu; exact q2
    | 3, hu => simp at hu; subst hu; exact q3
    | 4, hu => simp at hu; subst hu; exact q4
    | 5, hu => simp at hu; subst hu; exact q5
    | 6, hu => simp at hu; subst hu; exact q6
    | n + 7, hu => simp at hu
/-- A slice of bytes, nil let in. -/
theorem open_bytes {t : TypeId} (ht : Try.prog.underlying t = some (.slice 5)) {A : Option Addr} {len cap : Nat} {d : DataW H} {p : List MemPlace} (h : DataW.Trod enc Try.prog w base spare held t (.slice A len cap) d p) :
    ∃ l : List Int, l.length = len ∧ (∀ y ∈ l, 0 ≤ y ∧ y < 256) ∧ (Kd.C (Kd.int .u8) w A l.length l ∧ l.length ≤ cap) := by
  obtain ⟨fuel, hf⟩ := h
  rcases open_ints ht Try.underlying5 (by kernel_rfl) hf with ⟨hcs, _⟩ | ⟨a, len', cap', zs, hcs, _, hlc, hcm, hzl, _, hcell, hwf⟩
  · simp [Value.cells] at hcs
    obtain ⟨rfl, rfl, rfl⟩ := hcs
    refine ⟨[], rfl, ?_, ⟨rfl, by simp, fun h => absurd h (by simp)⟩, by simp⟩
    intro y hy; cases hy
  · simp [Value.cells] at hcs
    obtain ⟨rfl, rfl, rfl⟩ := hcs
    have hle : len ≤ zs.length := by rw [hzl]; split <;> omega
    have htl : (zs.take len).length = len := by rw [List.length_take]; omega
    unfold maxLen at hcm
    refine ⟨zs.take len, htl, fun y hy => wf_u8 (hwf y (List.mem_of_mem_take hy)), ?_, by omega⟩
    rw [htl]
    refine Kd.C_of_reads (enc := Value.int .u8) (d := (0 : Int)) (h1 := fun _ => rfl) ⟨htl, by omega, fun _ => ⟨a, rfl, fun j hj => ?_⟩⟩
    rw [hcell j (by omega), List.getD_eq_getElem?_getD, List.getD_eq_getElem?_getD, List.getElem?_take, if_pos hj]
end Go.Proofs.Ytmifcdmkobammaa.Open
