/- Layer 12: a block that is known whole (copied from the guide's words to copy, and turned), and an iterator over a string beside two boxes. -/
import Derived.Below
import Derived.Laws.OwnMore
import Derived.Deep.Draws
import Derived.Laws.Rows
import Derived.Lib.OthersKept
namespace Go.Proofs.Ytmifcdmkobammaa.Blks
open Go.RowKit
def Blk (w : World) (g : Nat) (t : TypeId) (cs : Array Value) : Prop := w.heap[g]? = some (.cells cs t (0, 0))

section
variable {w w' : World} {g : Nat} {t : TypeId} {cs : Array Value}
theorem Blk.lt (h : Blk w g t cs) : g < w.heap.size := by
  rcases Nat.lt_or_ge g w.heap.size with hlt | hge
  · exact hlt
  · unfold Blk at h; rw [Array.getElem?_eq_none hge] at h; cases h
theorem Blk.cell (h : Blk w g t cs) (i : Nat) : w.cell? ⟨g, i, none⟩ = cs[i]? := cell_of_row w g i cs t (0, 0) h
theorem Blk.frozen (h : Blk w g t cs) (i : Nat) : w.frozen? ⟨g, i, none⟩ = false := by
  unfold Blk at h
  simp [World.frozen?, h]
theorem Blk.new (w : World) (t : TypeId) (cs : Array Value) : Blk (w.alloc (.cells cs t)) w.heap.size t cs := heap_alloc_new w _
theorem Blk.drew (h : Blk w g t cs) : Blk w.drew g t cs := h
theorem Blk.drewN (h : Blk w g t cs) (n : Nat) : Blk (w.drewN n) g t cs := h
theorem Blk.alloc (h : Blk w g t cs) (o : Obj) : Blk (w.alloc o) g t cs := (Below.heap_alloc w o g h.lt).trans h
theorem Blk.set_ (h : Blk w g t cs) (i : Nat) (u : Value) : Blk (w.setCell ⟨g, i, none⟩ u) g t (cs.setIfInBounds i u) := by
  unfold Blk at h ⊢
  simp [World.setCell, Array.getElem?_modify, h]
theorem Blk.far (h : Blk w g t cs) {p : Addr} (hp : g ≠ p.block) (u : Value) : Blk (w.setCell p u) g t cs := (Below.heap_setCell w p u g hp).trans h
theorem Blk.below {B : Nat} (h : Blk w g t cs) (hb : Below B w w') (hg : g < B) : Blk w' g t cs := (hb.block g hg).trans h
theorem Blk.below_ (h : Blk w g t cs) (hb : Below w.heap.size w w') : Blk w' g t cs := h.below hb h.lt
theorem Blk.grown {row : Option Nat} (h : Blk w g t cs) (hb : w.grownBy w' row) (hg : some g ≠ row) : Blk w' g t cs := (hb.block g h.lt hg).trans h
end
theorem below_then {B : Nat} {w w1 w2 : World} (h : Below B w w1) (hB : B ≤ w1.heap.size) (k : Below w1.heap.size w1 w2) : Below B w w2 :=
  h.trans ⟨k.os, k.tape, k.output, k.size, fun i hi => k.block i (Nat.lt_of_lt_of_le hi hB)⟩
theorem below_drewN {B : Nat} {w W : World} (h : Below B w W) (n : Nat) : Below B w (W.drewN n) := ⟨h.os, h.tape, h.output, h.size, h.block⟩
/-- Two boxes and an iterator over a string, in blocks of the call's own. -/
structure St (w0 : World) (ga gb gi : Nat) (os bs : Array Value) (s : ByteArray) (pos : Nat) (W : World) : Prop where
  ho : Blk W ga 31 os
  hb : Blk W gb 31 bs
  hi : W.heap[gi]? = some (.stringIter s pos)
  below : Below w0.heap.size w0 W
  l1 : w0.heap.size ≤ ga
  l2 : w0.heap.size ≤ gb
  l3 : w0.heap.size ≤ gi
  n1 : ga ≠ gb
  n2 : ga ≠ gi
  n3 : gb ≠ gi
section
variable {w0 W : World} {ga gb gi : Nat} {os bs : Array Value} {s : ByteArray} {pos : Nat}
theorem St.drewN (h : St w0 ga gb gi os bs s pos W) (n : Nat) : St w0 ga gb gi os bs s pos (W.drewN n) := ⟨h.ho, h.hb, h.hi, below_drewN h.below n, h.l1, h.l2, h.l3, h.n1, h.n2, h.n3⟩
theorem St.drew (h : St w0 ga gb gi os bs s pos W) : St w0 ga gb gi os bs s pos W.drew := ⟨h.ho, h.hb, h.hi, h.below.drew, h.l1, h.l2, h.l3, h.n1, h.n2, h.n3⟩
theorem St.next (h : St w0 ga gb gi os bs s pos W) : St w0 ga gb gi os bs s (pos + 1) (W.iterAt gi s (pos + 1)) :=
  ⟨(Lib.iterAt_other W gi ga s _ h.n2).trans h.ho, (Lib.iterAt_other W gi gb s _ h.n3).trans h.hb, Lib.iterAt_heap W gi s pos _ h.hi, Lib.below_iterAt h.below h.l3 _ _, h.l1, h.l2, h.l3, h.n1, h.n2, h.n3⟩
theorem St.put (h : St w0 ga gb gi os bs s pos W) (j : Nat) (v : Value) : St w0 ga gb gi os (bs.setIfInBounds j v) s pos (W.setCell ⟨gb, j, none⟩ v) :=
  ⟨h.ho.far h.n1 v, h.hb.set_ j v, (Below.heap_setCell W ⟨gb, j, none⟩ v gi (Ne.symm h.n3)).trans h.hi, h.below.setCell h.l2 v, h.l1, h.l2, h.l3, h.n1, h.n2, h.n3⟩
end
/-- As they are laid: a box, a box, an iterator. -/
theorem St.start (w : World) (os bs : Array Value) (s : ByteArray) : St w w.heap.size (w.heap.size + 1) (w.heap.size + 1 + 1) os bs s 0 (((w.alloc (.cells os 31)).alloc (.cells bs 31)).drew.iter s 0) := by
  have z0 := ((Blk.new w 31 os).alloc (.cells bs 31)).drew.alloc (.stringIter s 0)
  have z1 := ((Blk.new (w.alloc (.cells os 31)) 31 bs).drew).alloc (.stringIter s 0)
  have z2 := World.iter_heap ((w.alloc (.cells os 31)).alloc (.cells bs 31)).drew s 0
  have z3 : Below w.heap.size w (((w.alloc (.cells os 31)).alloc (.cells bs 31)).drew.iter s 0) := ((((Below.refl _ _).alloc (Nat.le_refl _) _).alloc (by simp) _).drew).alloc (by simp; omega) _
  simp only [World.size_alloc] at z1
  have e2 : ((w.alloc (.cells os 31)).alloc (.cells bs 31)).drew.heap.size = w.heap.size + 1 + 1 := by simp
  rw [e2] at z2
  exact ⟨z0, z1, z2, z3, by omega, by omega, by omega, by omega, by omega, by omega⟩
end Go.Proofs.Ytmifcdmkobammaa.Blks
