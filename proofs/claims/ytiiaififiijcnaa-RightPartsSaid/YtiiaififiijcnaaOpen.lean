/- Layer 6: arguments that are rights, entries, and slices of rights, opened to plain values. -/
import Derived.Test.YtiiaififiijcnaaPRightMeetx0
import Derived.Deep.Slices
import Derived.Deep.Fields
import Derived.ChangeSame
import Derived.Lib.SmallJoins
namespace Go.Proofs.Ytiiaififiijcnaa.Open
open Go.ChangeShapes Go.WideShapes Go.Deep Go.Joins
open Go.RowKit Go.Proofs.Ytiiaififiijcnaa.PRightMeet Go.Proofs.YtiiaififiijcnaaW.PrintWords Go.Proofs.YtiiaififiijcnaaW.PrintLast Go.Proofs.YtiiaififiijcnaaW.PrintMore
section
variable {H : Type} {enc : TypeId × Value → H} {P : Program} {w : World} {base : Nat} {spare : Nat → Bool} {held : Bool}
/-- A slice of structs of one-cell fields: each field's cell, with its own reading. -/
theorem open_slice_fields {t e : TypeId} {fs : Array Field} {fuel : Nat} {cs : List Value} {x : DataW H × List MemPlace} (ht : P.underlying t = some (.slice e)) (he : P.underlying e = some (.struct fs))
    (hone : oneCellFields P fs = true) (hC : P.cellsOf e = fs.size) (h : DataW.trod enc P w base spare held fuel t cs = some x) :
    (cs = [.slice none 0 0]) ∨
    ∃ (a : Addr) (len cap : Nat), cs = [.slice (some a) len cap] ∧ len ≤ cap ∧ cap ≤ maxLen ∧
      ∀ i, i < len → ∀ (j : Nat) (f : Field), fs[j]? = some f → ∃ (v : Value) (y : DataW H × List MemPlace) (n : Nat), w.cell? (a.add (i * fs.size + j)) = some v ∧ DataW.trod enc P w base spare held n f.type [v] = some y := by
  rcases open_slice ht h with h0 | ⟨a, len, cap, m, n, D, Pl, hcs, hb, hl, hm, hmm, hx, hi⟩
  · exact .inl h0.1
  · refine .inr ⟨a, len, cap, hcs, hl, hm, fun i him => ?_⟩
    have him' : i < m := by rw [hmm]; split <;> omega
    obtain ⟨cs', hc, ht'⟩ := hi i him'
    rw [hC] at hc
    obtain ⟨ys, n', hn', hy, hlen, hyl, hf⟩ := DataW.trod_struct he ht'
    obtain ⟨_, hcl, hat⟩ := World.cells?_some hc
    intro j f hj
    obtain ⟨ho, hk⟩ := hone_of hone j f hj
    have hjl : j < fs.size := (Array.getElem?_eq_some_iff.1 hj).1
    have hcell := hat j hjl
    have hv : cs'[j]? = some (cs'[j]'(by omega)) := List.getElem?_eq_getElem (by omega)
    have h1 := hf j f hj
    rw [ho, hk] at h1
    have hone' : (cs'.drop j).take 1 = [cs'[j]'(by omega)] := by
      rw [List.drop_eq_getElem_cons (by omega)]
      rfl
    rw [hone'] at h1
    have hys : ys[j]? = some (ys[j]'(by omega)) := List.getElem?_eq_getElem (by omega)
    refine ⟨_, _, n', ?_, h1.trans hys⟩
    rw [← Go.Deep.add_add, hcell, hv]
/-- A struct of one-cell fields by value: each field with its own reading. -/
theorem open_agg_any {r : Reach} {b0 : Nat} {t : TypeId} {fs : Array Field} {v : Value} {d : DataW H} {p : List MemPlace} (hs : P.underlying t = some (.struct fs)) (hone : oneCellFields P fs = true) (hC : P.cellsOf t = fs.size)
    (hv : Value.okWide P w r b0 t v) (h : DataW.Trod enc P w base spare held t v d p) :
    ∃ l : List Value, v = .agg l.toArray ∧ l.length = fs.size ∧ ∀ (j : Nat) (f : Field), fs[j]? = some f → ∃ (u : Value) (y : DataW H × List MemPlace) (n : Nat), l[j]? = some u ∧ DataW.trod enc P w base spare held n f.type [u] = some y := by
  obtain ⟨cs, rfl, hsz⟩ := okWide_struct hs hv
  obtain ⟨l⟩ := cs
  have hl : l.length = fs.size := hsz.trans hC
  refine ⟨l, rfl, hl, fun j f hj => ?_⟩
  obtain ⟨fuel, hf⟩ := h
  obtain ⟨xs, n, _, hx, _, hlen, hg⟩ := DataW.trod_struct hs hf
  obtain ⟨ho, hk⟩ := hone_of hone j f hj
  have hjl : j < fs.size := (Array.getElem?_eq_some_iff.1 hj).1
  have h1 := hg j f hj
  rw [ho, hk] at h1
  have hv1 : l[j]? = some (l[j]'(by omega)) := List.getElem?_eq_getElem (by omega)
  have hone' : ((Value.agg l.toArray).cells.toList.drop j).take 1 = [l[j]'(by omega)] := by
    have e : (Value.agg l.toArray).cells.toList = l := by simp [Value.cells]
    rw [e, List.drop_eq_getElem_cons (by omega)]
    rfl
  have hxs : xs[j]? = some (xs[j]'(by omega)) := List.getElem?_eq_getElem (by omega)
  rw [hone'] at h1
  exact ⟨l[j]'(by omega), xs[j]'(by omega), n, hv1, h1.trans hxs⟩
end
/-- From a way to choose one element at a time to the list of all. -/
theorem list_of {α : Type} {Q : Nat → α → Prop} (n : Nat) (h : ∀ i, i < n → ∃ x, Q i x) : ∃ l : List α, l.length = n ∧ ∀ i x, l[i]? = some x → Q i x := by
  induction n with
  | zero => exact ⟨[], rfl, fun i x hx => by simp at hx⟩
  | succ n ih =>
    obtain ⟨l, hl, hq⟩ := ih (fun i hi => h i (by omega))
    obtain ⟨x, hx⟩ := h n (by omega)
    refine ⟨l ++ [x], by simp [hl], fun i y hy => ?_⟩
    rcases Nat.lt_or_ge i n with hi | hi
    · rw [List.getElem?_append_left (by omega)] at hy
      exact hq i y hy
    · rw [List.getElem?_append_right (by omega), hl] at hy
      have : i - n = 0 := by
        rcases Nat.eq_zero_or_pos (i - n) with h0 | h0
        · exact h0
        · rw [List.getElem?_eq_none (by simp; omega)] at hy; cases hy
      have hin : i = n := by omega
      subst hin
      rw [this] at hy
      simp at hy
      subst hy
      exact hx

variable {H : Type} {enc : TypeId × Value → H} {w : World} {base : Nat} {spare : Nat → Bool} {held : Bool}
theorem cells26 : Try.prog.cellsOf 26 = 3 := by kernel_rfl
theorem open_right {r : Reach} {b0 : Nat} {v : Value} {d : DataW H} {p : List MemPlace} (hv : Value.okWide Try.prog w r b0 26 v) (h : DataW.Trod enc Try.prog w base spare held 26 v d p) :
    ∃ a b c : Bool, v = .agg #[.bool a, .bool b, .bool c] := by
  obtain ⟨l, rfl, hl, hf⟩ := open_agg_any Try.underlying26 (by kernel_rfl) cells26 hv h
  obtain ⟨u0, y0, n0, h0, t0⟩ := hf 0 _ rfl
  obtain ⟨u1, y1, n1, h1, t1⟩ := hf 1 _ rfl
  obtain ⟨u2, y2, n2, h2, t2⟩ := hf 2 _ rfl
  obtain ⟨a, e0, _⟩ := DataW.trod_bool Try.underlying4 t0
  obtain ⟨b, e1, _⟩ := DataW.trod_bool Try.underlying4 t1
  obtain ⟨c, e2, _⟩ := DataW.trod_bool Try.underlying4 t2
  simp only [List.cons.injEq, and_true] at e0 e1 e2
  subst e0 e1 e2
  refine ⟨a, b, c, ?_⟩
  have hl3 : l.length = 3 := hl
  match l, hl3 with
  | [x, y, z], _ =>
    simp at h0 h1 h2
    subst h0 h1 h2
    rfl
/-- A slice of rights, nil let in. -/
theorem open_rights {t : TypeId} (ht : Try.prog.underlying t = some (.slice 26)) {A : Option Addr} {len cap : Nat} {d : DataW H} {p : List MemPlace} (h : DataW.Trod enc Try.prog w base spare held t (.slice A len cap) d p) :
    ∃ l : List S26, l.length = len ∧ Kd.C k26 w A l.length l ∧ l.length ≤ cap := by
  obtain ⟨fuel, hf⟩ := h
  rcases open_slice_fields ht Try.underlying26 (by kernel_rfl) cells26 hf with hcs | ⟨a, len', cap', hcs, hlc, hcm, hi⟩
  · simp [Value.cells] at hcs
    obtain ⟨rfl, rfl, rfl⟩ := hcs
    exact ⟨[], rfl, ⟨rfl, by simp, fun h => absurd h (by simp)⟩, by simp⟩
  · simp [Value.cells] at hcs
    obtain ⟨rfl, rfl, rfl⟩ := hcs
    have hex : ∀ i, i < len → ∃ x : S26, w.cell? (a.add (i * 3)) = some (.bool x.f0) ∧ w.cell? (a.add (i * 3 + 1)) = some (.bool x.f1) ∧ w.cell? (a.add (i * 3 + 2)) = some (.bool x.f2) := by
      intro i hil
      obtain ⟨u0, y0, n0, h0, t0⟩ := hi i hil 0 _ rfl
      obtain ⟨u1, y1, n1, h1, t1⟩ := hi i hil 1 _ rfl
      obtain ⟨u2, y2, n2, h2, t2⟩ := hi i hil 2 _ rfl
      obtain ⟨b0, e0, _⟩ := DataW.trod_bool Try.underlying4 t0
      obtain ⟨b1, e1, _⟩ := DataW.trod_bool Try.underlying4 t1
      obtain ⟨b2, e2, _⟩ := DataW.trod_bool Try.underlying4 t2
      simp only [List.cons.injEq, and_true] at e0 e1 e2
      subst e0 e1 e2
      exact ⟨⟨b0, b1, b2⟩, h0, h1, h2⟩
    obtain ⟨l, hl, hq⟩ := list_of len hex
    subst hl
    unfold maxLen at hcm
    refine ⟨l, rfl, ⟨rfl, by omega, fun _ => ⟨a, rfl, fun j x hx => ?_⟩⟩, hlc⟩
    obtain ⟨q0, q1, q2⟩ := hq j x hx
    refine ⟨[.bool x.f0, .bool x.f1, .bool x.f2], rfl, k26_mk w x, fun i u hu => ?_⟩
    match i, hu with
    | 0, hu => simp at hu; subst hu; exact q0
    | 1, hu => simp at hu; subst hu; exact q1
    | 2, hu => simp at hu; subst hu; exact q2
    | n + 3, hu => simp at hu
end Go.Proofs.Ytiiaififiijcnaa.Open
