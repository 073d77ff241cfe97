import Derived.Test.YtmifcdmkobammaaParts
import Derived.Test.YtmifcdmkobammaaBlk
import Derived.Test.YtmifcdmkobammaaWEqStruct
namespace Go.Proofs.Ytmifcdmkobammaa.ScriptWalk
open Go.RowKit Go.Proofs.Ytmifcdmkobammaa.Parts Go.Proofs.Ytmifcdmkobammaa.Blks Go.Proofs.YtmifcdmkobammaaW.PrintWords
/-- What the letters copy. -/
def fill (os : Array Value) (L : List UInt8) (bs : Array Value) : Array Value := L.foldl (fun b c => match cellOf c with | some j => b.setIfInBounds j (os.getD j undef) | none => b) bs
theorem fill_size (os : Array Value) (L : List UInt8) (bs : Array Value) : (fill os L bs).size = bs.size := by
  unfold fill
  induction L generalizing bs with
  | nil => rfl
  | cons c L ih =>
    rw [List.foldl_cons, ih]
    cases cellOf c <;> simp
theorem fill_snoc (os : Array Value) (L : List UInt8) (c : UInt8) (bs : Array Value) : fill os (L ++ [c]) bs = (match cellOf c with | some j => (fill os L bs).setIfInBounds j (os.getD j undef) | none => fill os L bs) := by
  unfold fill; rw [List.foldl_append]; rfl
theorem fill_at (os : Array Value) (L : List UInt8) (bs : Array Value) (h : bs.size = 7) (j : Nat) (hj : j < 7) : ∃ x, (fill os L bs)[j]? = some x := by
  have : j < (fill os L bs).size := by rw [fill_size, h]; exact hj
  exact ⟨_, Array.getElem?_eq_getElem this⟩
/-- A part that a kind has not is nil. -/
def own (k : Int) (c : UInt8) (x : Int) : Int := if (letters k).contains c then x else 0
theorem fill_form (k : Int) (ub : Bool) (o0 o1 : Value) (a v g i n : Int) : fill #[o0, o1, .int .u64 a, .int .u64 v, .int .i64 g, .int .i64 i, .int .i64 n] (letters k) #[.int .i64 k, .bool ub, .int .u64 0, .int .u64 0, .int .i64 0, .int .i64 0, .int .i64 0] =
    #[.int .i64 k, .bool ub, .int .u64 (own k 65 a), .int .u64 (own k 86 v), .int .i64 (own k 71 g), .int .i64 (own k 73 i), .int .i64 (own k 78 n)] := by
  rcases kinds k with rfl | rfl | rfl | rfl | rfl | rfl | rfl | rfl | rfl | h
  iterate 9 · rfl
  · unfold own fill; rw [letters_no h]; rfl
/-- May an operation be so? -/
def rightB (k : Int) (u : Bool) (a v g i n : Int) : Bool := !(pt k).toList.isEmpty && ((!u || hasU k) && (decide (own k 65 a = a ∧ own k 86 v = v ∧ own k 71 g = g ∧ own k 73 i = i ∧ own k 78 n = n) && (decide (0 ≤ g) && (decide (g < 256) && (decide (0 ≤ n) && (decide (n < 256) && (decide (0 ≤ i) && decide (i < 8))))))))
set_option maxRecDepth 100000 in
theorem eqA31 (d : Nat) (w : World) (x0 y0 : Int) (x1 y1 : Bool) (x2 y2 : Int) (x3 y3 : Int) (x4 y4 : Int) (x5 y5 : Int) (x6 y6 : Int) :
    (Op.equalIn (d + 2) 31 (.agg #[.int .i64 x0, .bool x1, .int .u64 x2, .int .u64 x3, .int .i64 x4, .int .i64 x5, .int .i64 x6]) (.agg #[.int .i64 y0, .bool y1, .int .u64 y2, .int .u64 y3, .int .i64 y4, .int .i64 y5, .int .i64 y6])).run Try.prog w = .ok (x0 == y0 && (x1 == y1 && (x2 == y2 && (x3 == y3 && (x4 == y4 && (x5 == y5 && (x6 == y6))))))) w := by
  refine eqA_of Try.underlying31 (by kernel_rfl) ?_
  refine eqf_cons (by rfl) (by go_simp; rfl) (by go_simp; rfl) (by go_simp) ?_
  refine eqf_cons (by rfl) (by go_simp; rfl) (by go_simp; rfl) (by go_simp) ?_
  refine eqf_cons (by rfl) (by go_simp; rfl) (by go_simp; rfl) (by go_simp) ?_
  refine eqf_cons (by rfl) (by go_simp; rfl) (by go_simp; rfl) (by go_simp) ?_
  refine eqf_cons (by rfl) (by go_simp; rfl) (by go_simp; rfl) (by go_simp) ?_
  refine eqf_cons (by rfl) (by go_simp; rfl) (by go_simp; rfl) (by go_simp) ?_
  exact eqf_last (by rfl) (by go_simp; rfl) (by go_simp; rfl) (by go_simp)
section
variable {w0 W : World} {ga gb gi : Nat} {os bs : Array Value} {s : ByteArray} {pos : Nat}
theorem part_St {g : Nat} {c : Int} {r : Ending} (hp : Calls Try.prog 24 #[.pointer (some ⟨g, 0, none⟩), .int .i32 c] W fun e w' => e = r ∧ ∃ n, w' = W.drewN n)
    (S : St w0 ga gb gi os bs s pos W) : Calls Try.prog 24 #[.pointer (some ⟨g, 0, none⟩), .int .i32 c] W fun e w' => e = r ∧ St w0 ga gb gi os bs s pos w' :=
  hp.mono fun e w' h => ⟨h.1, by obtain ⟨n, e⟩ := h.2; rw [e]; exact S.drewN n⟩
end
end Go.Proofs.Ytmifcdmkobammaa.ScriptWalk
