/- Layer 12: what script.get reads, in plain Lean. -/
import Derived.Test.YtmifcdmkobammaaRightW
import Derived.Test.YtmifcdmkobammaaPutB
namespace Go.Proofs.Ytmifcdmkobammaa.ScriptWalk
open Go.RowKit Go.Proofs.Ytmifcdmkobammaa.Parts Go.Proofs.Ytmifcdmkobammaa.Blks
theorem St.start2 {w W0 : World} {ga : Nat} {os : Array Value} (hB : Blk W0 ga 31 os) (hb : Below w.heap.size w W0) (hl : w.heap.size ≤ ga) (bs : Array Value) (s : ByteArray) : St w ga W0.heap.size (W0.heap.size + 1) os bs s 0 ((W0.alloc (.cells bs 31)).drew.iter s 0) := by
  have z0 := ((hB.alloc (.cells bs 31)).drew).alloc (.stringIter s 0)
  have z1 := ((Blk.new W0 31 bs).drew).alloc (.stringIter s 0)
  have z2 := World.iter_heap (W0.alloc (.cells bs 31)).drew s 0
  have z3 : Below w.heap.size w ((W0.alloc (.cells bs 31)).drew.iter s 0) := (((hb.alloc hb.size _).drew).alloc (by have := hb.size; simp; omega) _)
  have e2 : (W0.alloc (.cells bs 31)).drew.heap.size = W0.heap.size + 1 := by simp
  rw [e2] at z2
  have := hB.lt
  have := hb.size
  exact ⟨z0, z1, z2, z3, hl, by omega, by omega, by omega, by omega, by omega⟩
theorem kind_of {x : Int} (h0 : 0 ≤ x) (h1 : x < 256) : wrap64 (bits .andNot .u8 x 128) = x % 128 := by
  have : ∀ y : Fin 256, wrap64 (bits .andNot .u8 (y.val : Int) 128) = (y.val : Int) % 128 := by decide +kernel
  have h := this ⟨x.toNat, by omega⟩
  simpa [Int.toNat_of_nonneg h0] using h
theorem user_of {x : Int} (h0 : 0 ≤ x) (h1 : x < 256) : (bits .and .u8 x 128 != 0) = decide (128 ≤ x) := by
  have : ∀ y : Fin 256, (bits .and .u8 (y.val : Int) 128 != 0) = decide (128 ≤ (y.val : Int)) := by decide +kernel
  have h := this ⟨x.toNat, by omega⟩
  simpa [Int.toNat_of_nonneg h0] using h
/-- The parts, as they are read. -/
structure Five where
  a : Int
  v : Int
  g : Int
  i : Int
  n : Int
def Five.arr (k : Int) (u : Bool) (f : Five) : Array Value := #[.int .i64 k, .bool u, .int .u64 f.a, .int .u64 f.v, .int .i64 f.g, .int .i64 f.i, .int .i64 f.n]
def five0 : Five := ⟨0, 0, 0, 0, 0⟩
/-- A number of many bytes, behind what is there. -/
def many (a : Int) (ys : List Int) : Int := ys.foldl (fun a y => (a * 256 + y) % 18446744073709551616) a
theorem many_snoc (a : Int) (ys : List Int) (y : Int) : many a (ys ++ [y]) = (many a ys * 256 + y) % 18446744073709551616 := by simp [many]
theorem wrap_u64 (n : Int) : IntKind.u64.wrap n = n % 18446744073709551616 := by simp [IntKind.wrap, IntKind.bits, IntKind.signed]
theorem or8 (a y : Int) (h0 : 0 ≤ y) (h1 : y < 256) : bits .or .u64 (IntKind.u64.wrap (a * 256)) y = (a * 256 + y) % 18446744073709551616 := by
  rw [wrap_u64, bits_join .u64 64 (by decide) (fun n h0 h1 => by rw [wrap_u64]; omega) 8 (a * 256 % 18446744073709551616) y (by omega) (by omega) (by omega) h0 (by omega) (by omega)]
  omega
/-- How many bytes a letter takes. -/
def width (c : UInt8) : Nat := if c = 65 then 8 else if c = 86 then 8 else if c = 71 then 1 else if c = 73 then 1 else if c = 78 then 1 else 0
/-- What a letter reads. -/
def readOne (c : UInt8) (f : Five) (ys : List Int) : Five := if c = 65 then { f with a := many f.a (ys.take 8) } else if c = 86 then { f with v := many f.v (ys.take 8) } else if c = 71 then { f with g := ys.headD 0 } else if c = 73 then { f with i := ys.headD 0 } else if c = 78 then { f with n := ys.headD 0 } else f
def readAll : List UInt8 → Five → List Int → Option (Five × List Int)
  | [], f, ys => some (f, ys)
  | c :: L, f, ys => if ys.length < width c then none else readAll L (readOne c f ys) (ys.drop (width c))
theorem readAll_step {k : Int} {pos : Nat} (hp : pos < (pt k).size) (f : Five) (ys : List Int) : readAll ((letters k).drop pos) f ys = if ys.length < width (pt k)[pos] then none else readAll ((letters k).drop (pos + 1)) (readOne (pt k)[pos] f ys) (ys.drop (width (pt k)[pos])) := by
  rw [pt_at k pos hp, List.drop_eq_getElem_cons (by rw [← pt_size]; exact hp)]
  rfl
/-- Bytes that lie in a block, and room behind them. -/
structure View (w : World) (blk o : Nat) (ys : List Int) (cq : Nat) : Prop where
  lt : blk < w.heap.size
  cell : ∀ i, i < ys.length → w.cell? ⟨blk, o + i, none⟩ = some (.int .u8 (ys.getD i 0))
  byte : ∀ y ∈ ys, 0 ≤ y ∧ y < 256
  cap : ys.length ≤ cq
theorem View.below {w w' : World} {blk o cq : Nat} {ys : List Int} (h : View w blk o ys cq) (hb : Below w.heap.size w w') : View w' blk o ys cq :=
  ⟨Nat.lt_of_lt_of_le h.lt hb.size, fun i hi => by rw [hb.cell h.lt]; exact h.cell i hi, h.byte, h.cap⟩
theorem View.drop {w : World} {blk o cq : Nat} {ys : List Int} (h : View w blk o ys cq) (m : Nat) (hm : m ≤ ys.length) : View w blk (o + m) (ys.drop m) (cq - m) := by
  refine ⟨h.lt, fun i hi => ?_, fun y hy => h.byte y (List.mem_of_mem_drop hy), by have := h.cap; simp only [List.length_drop]; omega⟩
  simp only [List.length_drop] at hi
  have e := h.cell (m + i) (by omega)
  rw [show o + m + i = o + (m + i) by omega, e]
  congr 2
  simp [List.getD_eq_getElem?_getD]
theorem View.at {w W : World} {blk o cq : Nat} {ys : List Int} (h : View w blk o ys cq) (hb : Below w.heap.size w W) {j : Nat} (hj : j < ys.length) : ∃ y, ys[j]? = some y ∧ 0 ≤ y ∧ y < 256 ∧ W.cell? ⟨blk, o + j, none⟩ = some (.int .u8 y) := by
  refine ⟨ys[j], List.getElem?_eq_getElem hj, (h.byte _ (List.getElem_mem hj)).1, (h.byte _ (List.getElem_mem hj)).2, ?_⟩
  rw [hb.cell h.lt, h.cell j hj]
  congr 2
  simp [List.getD_eq_getElem?_getD, List.getElem?_eq_getElem hj]
theorem View.cut {w : World} {blk o cq : Nat} {ys : List Int} (h : View w blk o ys cq) (m : Nat) (hm : m ≤ ys.length) : ∃ o2, (if cq = m then some (⟨blk, o, none⟩ : Addr) else some ⟨blk, o + m, none⟩) = some ⟨blk, o2, none⟩ ∧ View w blk o2 (ys.drop m) (cq - m) := by
  by_cases hc : cq = m
  · refine ⟨o, if_pos hc, h.lt, fun i hi => ?_, fun y hy => h.byte y (List.mem_of_mem_drop hy), by have := h.cap; simp only [List.length_drop]; omega⟩
    have := h.cap
    simp only [List.length_drop] at hi
    omega
  · exact ⟨o + m, if_neg hc, h.drop m hm⟩
theorem keepC {w w1 : World} (h : Below w.heap.size w w1) {a : Addr} {v : Value} (hc : w.cell? a = some v) : w1.cell? a = some v := (h.cell (World.block_lt_of_cell? w a hc)).trans hc
theorem keepF {w w1 : World} (h : Below w.heap.size w w1) {g i : Nat} (hg : g < w.heap.size) (hf : w.frozen? ⟨g, i, none⟩ = false) : w1.frozen? ⟨g, i, none⟩ = false := by
  unfold World.frozen? at hf ⊢
  rw [h.block g hg]
  exact hf
theorem results_get (tmps : Array Value) (w : World) (g : Nat) (cs : Array Value) (hp : tmps.getD 2 undef = .pointer (some ⟨g, 0, none⟩)) (hB : Blk w g 31 cs) (hs : cs.size = 7) :
    (results Try.f18 tmps).run Try.prog w = .ok (.tuple #[.agg cs, tmps.getD 3 undef, tmps.getD 4 undef]) w := by
  have hp' : tmps[2]?.getD undef = .pointer (some ⟨g, 0, none⟩) := by simpa using hp
  have hi : (Try.prog.info? 31).map (·.size) = some cs.size := by rw [hs]; kernel_rfl
  simp [results, hp', asAddr, run_loadVar_row w g 31 31 cs (0, 0) _ hB Try.underlying31 rfl hi]
end Go.Proofs.Ytmifcdmkobammaa.ScriptWalk
