/- Layer 12: the world of script.put while it writes: a box, the bytes so far, an iterator. -/
import Derived.Test.YtmifcdmkobammaaParts2
import Derived.Test.YtmifcdmkobammaaProg
import Derived.Below
import Derived.Deep.Draws
import Derived.Deep.AppendLies
import Derived.Maps.AppendAt
import Derived.OwnWalk
import Derived.Laws.BytesArg
import Derived.Laws.MakeOwn
import Derived.Laws.OwnMore
import Derived.Deep.OwnRows
import Derived.Tactics
import Derived.Lib.ConvBytes
import Derived.Laws.Slices
import Derived.WalkKit
import Derived.KernelRfl
import Derived.RowKit3
import Derived.Deep.LoopGhost
import Derived.Deep.QuietTactic
import Derived.BigQuiet
import Derived.WideLaws
import Derived.Deep.DeepCutAuto
import Derived.Deep.CutBlock
import Derived.Deep.RegionHeld3
import Derived.Laws.Rows
import Derived.Lib.AppendStr
import Derived.ArgAppend
import Derived.Laws.IdiomCopy
import Derived.OrdersHeld
import Derived.Laws.BitsLemmas
import Derived.RowKit
import Derived.Test.YtmifcdmkobammaaWWords
import Derived.Test.YtmifcdmkobammaaWLast
import Derived.Test.YtmifcdmkobammaaWTab
import Derived.Test.YtmifcdmkobammaaWFour
import Derived.Test.YtmifcdmkobammaaWQPut
import Derived.Test.YtmifcdmkobammaaWApart
import Derived.Test.YtmifcdmkobammaaWArr
import Derived.Test.YtmifcdmkobammaaWZeros
import Derived.Test.YtmifcdmkobammaaWFoot
import Derived.Test.YtmifcdmkobammaaWKept
import Derived.Test.YtmifcdmkobammaaWShare
import Derived.Test.YtmifcdmkobammaaWN
import Derived.Test.YtmifcdmkobammaaWFootNe
import Derived.Test.YtmifcdmkobammaaWAt
import Derived.Test.YtmifcdmkobammaaWEqStruct
import Derived.Test.YtmifcdmkobammaaWRepsOne
import Derived.Test.YtmifcdmkobammaaWInv
import Derived.Test.YtmifcdmkobammaaWInvWords
import Derived.Test.YtmifcdmkobammaaWGuard
import Derived.Test.YtmifcdmkobammaaWNEv
import Derived.Test.YtmifcdmkobammaaWMore
namespace Go.Proofs.Ytmifcdmkobammaa.ScriptWalk
open Go.RowKit Go.Proofs.Ytmifcdmkobammaa.Parts Go.Proofs.Ytmifcdmkobammaa.Blks Go.Proofs.YtmifcdmkobammaaW.PrintWords Go.Proofs.YtmifcdmkobammaaW.PrintLast Go.Proofs.YtmifcdmkobammaaW.PrintMore
theorem info5 : (Try.prog.info? 5).map (fun i => (i.zero, i.size, i.bytes)) = some (some (.int .u8 0), 1, 1) := by kernel_rfl
/-- The box of the operation and the bytes so far. -/
structure Pa (w0 w : World) (P0 : Nat → Prop) (g : Nat) (os : Array Value) (v : Value) (l : List Int) (W : World) : Prop where
  box : Blk W g 31 os
  out : Kd.R (Kd.int .u8) 5 W w0.heap.size (fun k => P0 k ∨ w.heap.size ≤ k) v l
  kept : Kept w W P0
  below : Below w0.heap.size w0 W
  lg : w.heap.size ≤ g
  lw : w0.heap.size ≤ w.heap.size
structure Pi (w0 w : World) (P0 : Nat → Prop) (g gi : Nat) (os : Array Value) (s : ByteArray) (pos : Nat) (v : Value) (l : List Int) (W : World) : Prop where
  pa : Pa w0 w P0 g os v l W
  it : W.heap[gi]? = some (.stringIter s pos)
  li : w.heap.size ≤ gi
section
variable {w0 w W W1 : World} {P0 : Nat → Prop} {g gi : Nat} {os : Array Value} {s : ByteArray} {pos : Nat} {v v1 : Value} {l l1 : List Int}
theorem Pa.start (hB : Below w0.heap.size w0 w) (ho : Kd.R (Kd.int .u8) 5 w w0.heap.size P0 v l) (os : Array Value) : Pa w0 w P0 w.heap.size os v l (w.alloc (.cells os 31)) :=
  ⟨Blk.new w 31 os, Kd.R_alloc (Kd.R_mono ho fun _ hk => .inl hk) _, (Kept.refl w P0).alloc _, hB.alloc hB.size _, Nat.le_refl _, hB.size⟩
theorem Pa.start' {g : Nat} (hB : Below w0.heap.size w0 w) (ho : Kd.R (Kd.int .u8) 5 w w0.heap.size P0 v l) (hbox : W.heap[g]? = some (.cells os 31 (0, 0))) (hb : Below w.heap.size w W) (hg : g = w.heap.size) : Pa w0 w P0 g os v l W :=
  ⟨hbox, Kd.R_below (Kd.R_mono ho fun _ hk => .inl hk) hb, (Kept.refl w P0).below hb, Blks.below_then hB hB.size hb, by omega, hB.size⟩
theorem Pa.drewN (h : Pa w0 w P0 g os v l W) (n : Nat) : Pa w0 w P0 g os v l (W.drewN n) := ⟨h.box, Kd.R_drewN h.out n, h.kept.drewN n, below_drewN h.below n, h.lg, h.lw⟩
theorem Pa.fresh (h : Pa w0 w P0 g os v l W) : ∀ k, W.heap.size ≤ k → P0 k ∨ w.heap.size ≤ k := fun _ hk => .inr (Nat.le_trans h.kept.1 hk)
theorem Pa.grown (h : Pa w0 w P0 g os v l W) (ho : Kd.R (Kd.int .u8) 5 W1 w0.heap.size (fun k => P0 k ∨ w.heap.size ≤ k) v1 l1) (hb : Below w0.heap.size w0 W1) (hg : W.grownBy W1 v.ownBlock) : Pa w0 w P0 g os v1 l1 W1 :=
  ⟨h.box.grown hg (Kd.R_ne h.out h.box (by decide)), ho, Kept.of_grown hg h.kept (fun k e => h.out.1 k e), hb, h.lg, h.lw⟩
theorem Pa.iter (h : Pa w0 w P0 g os v l W) (s : ByteArray) : Pi w0 w P0 g W.heap.size os s 0 v l (W.iter s 0) :=
  ⟨⟨h.box.alloc _, Kd.R_alloc h.out _, h.kept.alloc _, h.below.alloc h.below.size _, h.lg, h.lw⟩, World.iter_heap W s 0, h.kept.1⟩
theorem Pi.drewN (h : Pi w0 w P0 g gi os s pos v l W) (n : Nat) : Pi w0 w P0 g gi os s pos v l (W.drewN n) := ⟨h.pa.drewN n, h.it, h.li⟩
theorem Pi.ne (h : Pi w0 w P0 g gi os s pos v l W) : g ≠ gi := by
  rintro rfl
  have a := h.pa.box
  have b := h.it
  unfold Blk at a
  rw [a] at b; cases b
theorem Pi.next (h : Pi w0 w P0 g gi os s pos v l W) : Pi w0 w P0 g gi os s (pos + 1) v l (W.iterAt gi s (pos + 1)) := by
  have hlt : gi < W.heap.size := by
    rcases Nat.lt_or_ge gi W.heap.size with a | a
    · exact a
    · have b := h.it; rw [Array.getElem?_eq_none a] at b; cases b
  have hsz : (W.iterAt gi s (pos + 1)).heap.size = W.heap.size := by simp [World.iterAt]
  refine ⟨⟨(Lib.iterAt_other W gi g s _ h.ne).trans h.pa.box, ?_, ?_, Lib.below_iterAt h.pa.below (Nat.le_trans h.pa.lw h.li) _ _, h.pa.lg, h.pa.lw⟩, Lib.iterAt_heap W gi s pos _ h.it, h.li⟩
  · refine Kd.R_mono (Kd.R_move (Kd.R_bound h.pa.out) (fun k hk => Lib.iterAt_other W gi k s _ ?_)) (fun _ hk => hk.1)
    rintro rfl
    obtain ⟨_, _, _, q, _, cells, hc⟩ := hk
    have b := h.it; rw [hc] at b; cases b
  · refine h.pa.kept.then_ (S2 := fun k => k = gi) ⟨by rw [hsz]; exact Nat.le_refl _, fun i _ hn => Lib.iterAt_other W gi i s _ hn⟩ (fun k hk => .inr (by rw [hk]; exact h.li))
theorem Pi.grown (h : Pi w0 w P0 g gi os s pos v l W) (ho : Kd.R (Kd.int .u8) 5 W1 w0.heap.size (fun k => P0 k ∨ w.heap.size ≤ k) v1 l1) (hb : Below w0.heap.size w0 W1) (hg : W.grownBy W1 v.ownBlock) : Pi w0 w P0 g gi os s pos v1 l1 W1 := by
  refine ⟨h.pa.grown ho hb hg, blk_grown h.it hg ?_, h.li⟩
  intro e
  obtain ⟨_, _, _, q, _, cells, hc⟩ := (Kd.R_bound h.pa.out).1 gi e.symm
  have b := h.it; rw [hc] at b; cases b
theorem part_Pi {gg : Nat} {c : Int} {r : Ending} (hp : Calls Try.prog 24 #[.pointer (some ⟨gg, 0, none⟩), .int .i32 c] W fun e w' => e = r ∧ ∃ n, w' = W.drewN n)
    (S : Pi w0 w P0 g gi os s pos v l W) : Calls Try.prog 24 #[.pointer (some ⟨gg, 0, none⟩), .int .i32 c] W fun e w' => e = r ∧ Pi w0 w P0 g gi os s pos v l w' :=
  hp.mono fun e w' h => ⟨h.1, by obtain ⟨n, e⟩ := h.2; rw [e]; exact S.drewN n⟩
end
/-- A number's eight bytes, the greatest first: as many as j. -/
def top (a : Int) (j : Nat) : List Int := (List.range j).map fun (q : Nat) => a / 2 ^ (8 * (7 - q)) % 256
theorem top_snoc (a : Int) (j : Nat) : top a (j + 1) = top a j ++ [a / 2 ^ (8 * (7 - j)) % 256] := by
  simp [top, List.range_succ]
/-- What a letter writes. -/
def wrote (a v g i n : Int) (c : UInt8) : List Int := if c = 65 then top a 8 else if c = 86 then top v 8 else if c = 71 then [g % 256] else if c = 73 then [i % 256] else if c = 78 then [n % 256] else []
def wroteAll (a v g i n : Int) (L : List UInt8) : List Int := L.flatMap (wrote a v g i n)
theorem wroteAll_snoc (a v g i n : Int) (L : List UInt8) (c : UInt8) : wroteAll a v g i n (L ++ [c]) = wroteAll a v g i n L ++ wrote a v g i n c := by simp [wroteAll]
theorem top_len (a : Int) (j : Nat) : (top a j).length = j := by simp [top]
theorem wrote_len (a v g i n : Int) (c : UInt8) : (wrote a v g i n c).length ≤ 8 := by
  unfold wrote
  split <;> (try split) <;> (try split) <;> (try split) <;> (try split) <;> simp [top_len]
theorem wroteAll_len (a v g i n : Int) (L : List UInt8) : (wroteAll a v g i n L).length ≤ 8 * L.length := by
  induction L with
  | nil => simp [wroteAll]
  | cons c L ih =>
    have h := wrote_len a v g i n c
    have e : wroteAll a v g i n (c :: L) = wrote a v g i n c ++ wroteAll a v g i n L := by simp [wroteAll]
    rw [e, List.length_append, List.length_cons]
    omega
theorem letters_len (k : Int) : (letters k).length ≤ 3 := by
  rcases kinds k with rfl | rfl | rfl | rfl | rfl | rfl | rfl | rfl | rfl | h
  iterate 9 · decide
  · rw [letters_no h]; simp
end Go.Proofs.Ytmifcdmkobammaa.ScriptWalk
