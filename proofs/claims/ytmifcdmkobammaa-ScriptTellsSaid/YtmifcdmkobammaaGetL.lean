/- Layer 12: what script.Get reads, in plain Lean. -/
import Derived.Test.YtmifcdmkobammaaGetB
import Derived.Test.YtmifcdmkobammaaQx0
namespace Go.Proofs.Ytmifcdmkobammaa.ScriptWalk
open Go.RowKit Go.Proofs.YtmifcdmkobammaaW.PrintWords Go.Proofs.YtmifcdmkobammaaW.PrintLast Go.Proofs.YtmifcdmkobammaaW.PrintMore Go.Proofs.Ytmifcdmkobammaa.Parts Go.Proofs.Ytmifcdmkobammaa.Q
def mk31 (x : Int) (f : Five) : S31 := ⟨x % 128, decide (128 ≤ x), f.a, f.v, f.g, f.i, f.n⟩
def right31 (o : S31) : Bool := rightB o.f0 o.f1 o.f2 o.f3 o.f4 o.f5 o.f6
def getL (n0 : Nat) : Nat → List S31 → List Int → Option (List S31 × Int × Int)
  | 0, _, _ => none
  | _ + 1, out, [] => some (out, (n0 : Int), 0)
  | k + 1, out, x :: xs => match readAll (letters (x % 128)) five0 xs with
    | none => some (out, (n0 : Int) - ((xs.length : Int) + 1), 12)
    | some (f, ys) => if right31 (mk31 x f) = true then getL n0 k (out ++ [mk31 x f]) ys else some (out, (n0 : Int) - ((xs.length : Int) + 1), 12)
theorem getL_mono (n0 : Nat) : ∀ k out ys, LeO (getL n0 k out ys) (getL n0 (k + 1) out ys)
  | 0, _, _ => LeO.none _
  | k + 1, out, [] => LeO.refl _
  | k + 1, out, x :: xs => by
    unfold getL
    cases readAll (letters (x % 128)) five0 xs with
    | none => exact LeO.refl _
    | some p =>
      obtain ⟨f, ys⟩ := p
      dsimp only
      split
      · exact getL_mono n0 k _ _
      · exact LeO.refl _
theorem readAll_len (L : List UInt8) : ∀ (f : Five) (ys : List Int) (f' : Five) (zs : List Int), readAll L f ys = some (f', zs) → zs.length ≤ ys.length := by
  induction L with
  | nil => intro f ys f' zs h; simp only [readAll, Option.some.injEq, Prod.mk.injEq] at h; rw [h.2]; exact Nat.le_refl _
  | cons c L ih =>
    intro f ys f' zs h
    unfold readAll at h
    by_cases hw : ys.length < width c
    · rw [if_pos hw] at h; cases h
    · rw [if_neg hw] at h
      have := ih _ _ _ _ h
      rw [List.length_drop] at this
      omega
/-- What may be read at a slice. -/
def HV (w : World) (A : Option Addr) (ys : List Int) (cq : Nat) : Prop := ys.length ≤ cq ∧ ∀ x xs, ys = x :: xs → ∃ blk off sp, A = some ⟨blk, off, sp⟩ ∧ 0 ≤ x ∧ x < 256 ∧ w.cell? ⟨blk, off, sp⟩ = some (.int .u8 x) ∧ (cq ≠ 1 → View w blk (off + 1) xs (cq - 1))
theorem HV.below {w w' : World} {A : Option Addr} {ys : List Int} {cq : Nat} (h : HV w A ys cq) (hb : Below w.heap.size w w') : HV w' A ys cq :=
  ⟨h.1, fun x xs e => by
    obtain ⟨blk, off, sp, ea, h0, h1, hc, hv⟩ := h.2 x xs e
    exact ⟨blk, off, sp, ea, h0, h1, keepC hb hc, fun hn => (hv hn).below hb⟩⟩
theorem HV.of_view {w : World} {blk o cq : Nat} {sp : Option Nat} {ys : List Int} (V : View w blk o ys cq) (SP : 0 < ys.length → sp = none) : HV w (some ⟨blk, o, sp⟩) ys cq := by
  refine ⟨V.cap, fun x xs e => ?_⟩
  subst e
  obtain rfl := SP (by simp)
  refine ⟨blk, o, none, rfl, (V.byte x List.mem_cons_self).1, (V.byte x List.mem_cons_self).2, V.cell 0 (by simp), fun _ => V.drop 1 (by simp)⟩
theorem View.back {w w' : World} {blk o cq : Nat} {ys : List Int} (h : View w' blk o ys cq) (hb : Below w.heap.size w w') (hlt : blk < w.heap.size) : View w blk o ys cq :=
  ⟨hlt, fun i hi => (hb.cell (p := ⟨blk, o + i, none⟩) hlt).symm.trans (h.cell i hi), h.byte, h.cap⟩
theorem add_far (ad : Addr) (i : Nat) : ad.add (i + 1) = ⟨ad.block, ad.off + 1 + i, none⟩ := by
  show (if i + 1 = 0 then ad else { ad with off := ad.off + (i + 1), spot := none }) = _
  rw [if_neg (by omega), show ad.off + (i + 1) = ad.off + 1 + i by omega]
theorem HV.of_C {w : World} {A : Option Addr} {ys : List Int} {cq : Nat} (h : Kd.C (Kd.int .u8) w A ys.length ys) (hc : ys.length ≤ cq) (hb : ∀ y ∈ ys, 0 ≤ y ∧ y < 256) : HV w A ys cq := by
  refine ⟨hc, fun x xs e => ?_⟩
  subst e
  obtain ⟨ad, rfl, hx⟩ := Kd.at_int h 0 (by omega) (by simp)
  have hx' : w.cell? ad = some (.int .u8 x) := hx
  have hlt := World.block_lt_of_cell? w ad hx'
  refine ⟨ad.block, ad.off, ad.spot, rfl, (hb x List.mem_cons_self).1, (hb x List.mem_cons_self).2, hx', fun _ => ⟨hlt, fun i hi => ?_, fun y hy => hb y (List.mem_cons_of_mem _ hy), by simp only [List.length_cons] at hc; omega⟩⟩
  obtain ⟨ad', e', hy⟩ := Kd.at_int h ((i + 1 : Nat) : Int) (by omega) (by simp only [List.length_cons]; omega)
  cases e'
  rw [Int.toNat_natCast, add_far] at hy
  rw [hy]
  congr 2
end Go.Proofs.Ytmifcdmkobammaa.ScriptWalk
