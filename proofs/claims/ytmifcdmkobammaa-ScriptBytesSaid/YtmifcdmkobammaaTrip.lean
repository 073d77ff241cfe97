/- Layer 12: what is written is read again, in plain Lean. -/
import Derived.Test.YtmifcdmkobammaaGetL
namespace Go.Proofs.Ytmifcdmkobammaa.ScriptWalk
open Go.RowKit Go.Proofs.Ytmifcdmkobammaa.Parts
theorem many_app (x : Int) (l m : List Int) : many x (l ++ m) = many (many x l) m := by simp [many]
theorem many_top (a : Int) (h0 : 0 ≤ a) (h1 : a < 18446744073709551616) : many 0 (top a 8) = a := by
  have step : ∀ (x y b : Int), 0 ≤ y → y < 18446744073709551616 → x = y / 256 → b = y % 256 → (x * 256 + b) % 18446744073709551616 = y := by
    intro x y b g0 g1 hx hb
    subst hx hb
    omega
  have e : top a 8 = [a / 72057594037927936 % 256, a / 281474976710656 % 256, a / 1099511627776 % 256, a / 4294967296 % 256, a / 16777216 % 256, a / 65536 % 256, a / 256 % 256, a / 1 % 256] := by
    rfl
  rw [e]
  unfold many
  simp only [List.foldl]
  rw [step 0 (a / 72057594037927936) _ (by omega) (by omega) (by omega) rfl]
  rw [step _ (a / 281474976710656) _ (by omega) (by omega) (by omega) rfl]
  rw [step _ (a / 1099511627776) _ (by omega) (by omega) (by omega) rfl]
  rw [step _ (a / 4294967296) _ (by omega) (by omega) (by omega) rfl]
  rw [step _ (a / 16777216) _ (by omega) (by omega) (by omega) rfl]
  rw [step _ (a / 65536) _ (by omega) (by omega) (by omega) rfl]
  rw [step _ (a / 256) _ (by omega) (by omega) (by omega) rfl]
  rw [step _ (a / 1) _ (by omega) (by omega) (by omega) rfl]
  omega
theorem read_step (c : UInt8) (L : List UInt8) (f : Five) (w ys : List Int) (h : w.length = width c) : readAll (c :: L) f (w ++ ys) = readAll L (readOne c f (w ++ ys)) ys := by
  unfold readAll
  rw [if_neg (by rw [List.length_append]; omega), ← h, List.drop_left]
  cases L <;> rfl
theorem one_A (f : Five) (a : Int) (ys : List Int) : readOne 65 f (top a 8 ++ ys) = { f with a := many f.a (top a 8) } := by
  show ({ f with a := many f.a ((top a 8 ++ ys).take 8) } : Five) = _
  rw [List.take_left' (top_len a 8)]
theorem one_V (f : Five) (a : Int) (ys : List Int) : readOne 86 f (top a 8 ++ ys) = { f with v := many f.v (top a 8) } := by
  show ({ f with v := many f.v ((top a 8 ++ ys).take 8) } : Five) = _
  rw [List.take_left' (top_len a 8)]
/-- What is written of an operation's parts is read again. -/
theorem read_wrote (k a v g i n : Int) (ys : List Int) (ha : 0 ≤ a ∧ a < 18446744073709551616) (hv : 0 ≤ v ∧ v < 18446744073709551616) (hg : 0 ≤ g ∧ g < 256) (hi : 0 ≤ i ∧ i < 256) (hn : 0 ≤ n ∧ n < 256) :
    readAll (letters k) five0 (wroteAll a v g i n (letters k) ++ ys) = some (⟨own k 65 a, own k 86 v, own k 71 g, own k 73 i, own k 78 n⟩, ys) := by
  have eg : g % 256 = g := by omega
  have ei : i % 256 = i := by omega
  have en : n % 256 = n := by omega
  have w0 : wrote a v g i n 117 = [] := rfl
  have w1 : wrote a v g i n 65 = top a 8 := rfl
  have w2 : wrote a v g i n 86 = top v 8 := rfl
  have w3 : wrote a v g i n 71 = [g] := by rw [← eg]; exact congrArg (fun z => [z]) (by omega)
  have w4 : wrote a v g i n 73 = [i] := by rw [← ei]; exact congrArg (fun z => [z]) (by omega)
  have w5 : wrote a v g i n 78 = [n] := by rw [← en]; exact congrArg (fun z => [z]) (by omega)
  rcases kinds k with rfl | rfl | rfl | rfl | rfl | rfl | rfl | rfl | rfl | h
  · show readAll [117, 65] five0 (wroteAll a v g i n [117, 65] ++ ys) = _
    rw [show wroteAll a v g i n [117, 65] ++ ys = [] ++ (top a 8 ++ ys) by simp [wroteAll, w0, w1], read_step 117 _ _ [] _ rfl, read_step 65 _ _ _ _ (top_len a 8), one_A]
    show some (({ five0 with a := many 0 (top a 8) } : Five), ys) = _
    rw [many_top a ha.1 ha.2]; rfl
  · show readAll [117, 65, 86] five0 (wroteAll a v g i n [117, 65, 86] ++ ys) = _
    rw [show wroteAll a v g i n [117, 65, 86] ++ ys = [] ++ (top a 8 ++ (top v 8 ++ ys)) by simp [wroteAll, w0, w1, w2], read_step 117 _ _ [] _ rfl, read_step 65 _ _ _ _ (top_len a 8), one_A, read_step 86 _ _ _ _ (top_len v 8), one_V]
    show some ((⟨many 0 (top a 8), many 0 (top v 8), 0, 0, 0⟩ : Five), ys) = _
    rw [many_top a ha.1 ha.2, many_top v hv.1 hv.2]; rfl
  · show readAll [117, 65] five0 (wroteAll a v g i n [117, 65] ++ ys) = _
    rw [show wroteAll a v g i n [117, 65] ++ ys = [] ++ (top a 8 ++ ys) by simp [wroteAll, w0, w1], read_step 117 _ _ [] _ rfl, read_step 65 _ _ _ _ (top_len a 8), one_A]
    show some (({ five0 with a := many 0 (top a 8) } : Five), ys) = _
    rw [many_top a ha.1 ha.2]; rfl
  · show readAll [65] five0 (wroteAll a v g i n [65] ++ ys) = _
    rw [show wroteAll a v g i n [65] ++ ys = top a 8 ++ ys by simp [wroteAll, w1], read_step 65 _ _ _ _ (top_len a 8), one_A]
    show some (({ five0 with a := many 0 (top a 8) } : Five), ys) = _
    rw [many_top a ha.1 ha.2]; rfl
  · show readAll [71] five0 (wroteAll a v g i n [71] ++ ys) = _
    rw [show wroteAll a v g i n [71] ++ ys = [g] ++ ys by simp [wroteAll, w3], read_step 71 _ _ [g] _ rfl]; rfl
  · show readAll [71, 73, 86] five0 (wroteAll a v g i n [71, 73, 86] ++ ys) = _
    rw [show wroteAll a v g i n [71, 73, 86] ++ ys = [g] ++ ([i] ++ (top v 8 ++ ys)) by simp [wroteAll, w2, w3, w4], read_step 71 _ _ [g] _ rfl, read_step 73 _ _ [i] _ rfl, read_step 86 _ _ _ _ (top_len v 8), one_V]
    show some ((⟨0, many 0 (top v 8), g, i, 0⟩ : Five), ys) = _
    rw [many_top v hv.1 hv.2]; rfl
  · show readAll [78] five0 (wroteAll a v g i n [78] ++ ys) = _
    rw [show wroteAll a v g i n [78] ++ ys = [n] ++ ys by simp [wroteAll, w5], read_step 78 _ _ [n] _ rfl]; rfl
  · show readAll [65] five0 (wroteAll a v g i n [65] ++ ys) = _
    rw [show wroteAll a v g i n [65] ++ ys = top a 8 ++ ys by simp [wroteAll, w1], read_step 65 _ _ _ _ (top_len a 8), one_A]
    show some (({ five0 with a := many 0 (top a 8) } : Five), ys) = _
    rw [many_top a ha.1 ha.2]; rfl
  · show readAll [78] five0 (wroteAll a v g i n [78] ++ ys) = _
    rw [show wroteAll a v g i n [78] ++ ys = [n] ++ ys by simp [wroteAll, w5], read_step 78 _ _ [n] _ rfl]; rfl
  · unfold own; rw [letters_no h]; rfl
end Go.Proofs.Ytmifcdmkobammaa.ScriptWalk
