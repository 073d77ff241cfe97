/- Layer 12: words for the plain laws, in one text. -/
import Derived.Test.YtmifcdmkobammaaY2
import Derived.Test.YtmifcdmkobammaaYh
import Derived.Test.YtmifcdmkobammaaGetL
import Derived.Test.YtmifcdmkobammaaOpen
import Derived.Lib.Bytes
/- Layer 12: what script.Put writes, in plain Lean. -/
namespace Go.Proofs.Ytmifcdmkobammaa.Q
open Go.RowKit Go.Proofs.YtmifcdmkobammaaW.PrintWords Go.Proofs.YtmifcdmkobammaaW.PrintLast Go.Proofs.YtmifcdmkobammaaW.PrintMore Go.Proofs.Ytmifcdmkobammaa.ScriptWalk Go.Proofs.Ytmifcdmkobammaa.Parts
theorem w64' {x : Int} (h0 : -9223372036854775808 ≤ x) (h1 : x < 9223372036854775808) : wrap64 x = x := by
  rw [← i64_w, IntKind.wrap_i64]; omega
def bytes31 (o : S31) : List Int := opBytes o.f0 o.f1 o.f2 o.f3 o.f4 o.f5 o.f6
theorem right_kind {o : S31} (h : right31 o = true) : 0 ≤ o.f0 ∧ o.f0 ≤ 8 := by
  rcases kinds o.f0 with e | e | e | e | e | e | e | e | e | e
  iterate 9 · omega
  · exfalso
    unfold right31 rightB at h
    have hp : (pt o.f0).toList = [] := by unfold pt; rw [letters_no e]; decide +kernel
    rw [hp] at h
    simp at h
theorem bytes31_len (o : S31) : (bytes31 o).length ≤ 25 := by
  unfold bytes31 opBytes
  have := wroteAll_len o.f2 o.f3 o.f4 o.f5 o.f6 (letters o.f0)
  have := letters_len o.f0
  simp only [List.length_cons]; omega
def putAll (l : List S31) : List Int := if l.all right31 = true then l.flatMap bytes31 else []
theorem put_loop (l : List S31) (hl : l.length ≤ 1000000000) : ∀ (m i : Nat) (x3 : List Int), i + m = l.length → x3.length ≤ 25 * i → script_Put.l0 (m + 1) x3 l (l.length : Int) (i : Int) = if (l.drop i).all right31 = true then some (x3 ++ (l.drop i).flatMap bytes31) else some [] := by
  intro m
  induction m with
  | zero =>
    intro i x3 hi _
    have hd : l.drop i = [] := List.drop_of_length_le (by omega)
    rw [hd]
    unfold script_Put.l0
    rw [if_neg (by omega)]
    simp
  | succ m ih =>
    intro i x3 hi hx
    have hil : i < l.length := by omega
    have hd : l.drop i = l[i] :: l.drop (i + 1) := List.drop_eq_getElem_cons hil
    have hr : rd_T31 l (i : Int) = l[i] := by unfold rd_T31; rw [Int.toNat_natCast, List.getD_eq_getElem?_getD, List.getElem?_eq_getElem hil]; rfl
    unfold script_Put.l0
    rw [if_pos (by omega), if_pos (by omega), if_pos (by omega), hr, hd]
    have e : script_Right.f l[i].f0 l[i].f1 l[i].f2 l[i].f3 l[i].f4 l[i].f5 l[i].f6 = some (right31 l[i]) := rfl
    rw [e, Option.bind_some]
    cases h : right31 l[i] with
    | false => rw [if_neg (by decide), List.all_cons, h, Bool.false_and, if_neg (by decide)]
    | true =>
      have hk := right_kind h
      have ep : script_put.f x3 l[i].f0 l[i].f1 l[i].f2 l[i].f3 l[i].f4 l[i].f5 l[i].f6 = some (x3 ++ bytes31 l[i]) := if_pos ⟨hk.1, hk.2, by omega⟩
      rw [if_pos rfl, ep, Option.bind_some, w64' (by omega) (by omega), show ((i : Int) + 1) = ((i + 1 : Nat) : Int) by omega, ih (i + 1) _ (by omega) (by have := bytes31_len l[i]; rw [List.length_append]; omega), List.all_cons, h, Bool.true_and, List.flatMap_cons, List.append_assoc]
theorem put_law (l : List S31) (hl : l.length ≤ 1000000000) : script_Put.f (l.length + 1) l = some (putAll l) := by
  have h := put_loop l hl l.length 0 [] (by omega) (by simp)
  unfold script_Put.f putAll
  rw [show ((0 : Nat) : Int) = 0 from rfl] at h
  rw [h]
  simp only [List.drop_zero, List.nil_append]
  split <;> rfl
end Go.Proofs.Ytmifcdmkobammaa.Q
/- Layer 12: Same tells equal lists, in plain Lean. -/
namespace Go.Proofs.Ytmifcdmkobammaa.Q
open Go.RowKit Go.Proofs.YtmifcdmkobammaaW.PrintWords Go.Proofs.YtmifcdmkobammaaW.PrintLast Go.Proofs.YtmifcdmkobammaaW.PrintMore
theorem S31.ext' {x y : S31} (h0 : x.f0 = y.f0) (h1 : x.f1 = y.f1) (h2 : x.f2 = y.f2) (h3 : x.f3 = y.f3) (h4 : x.f4 = y.f4) (h5 : x.f5 = y.f5) (h6 : x.f6 = y.f6) : x = y := by
  cases x; cases y; simp_all
theorem same_loop (x0 x1 : List S31) (hl : x0.length ≤ 1000000000) (he : x0.length = x1.length) : ∀ (m i : Nat), i + m = x0.length → ∃ b, silhouetteref12_Same.l0 (m + 1) x0 x1 (i : Int) = some b ∧ (b = true ↔ x0.drop i = x1.drop i) := by
  intro m
  induction m with
  | zero =>
    intro i hi
    refine ⟨true, ?_, ?_⟩
    · unfold silhouetteref12_Same.l0; rw [if_neg (by omega)]
    · rw [List.drop_of_length_le (by omega), List.drop_of_length_le (by omega)]; simp
  | succ m ih =>
    intro i hi
    have h0 : i < x0.length := by omega
    have h1 : i < x1.length := by omega
    have r0 : rd_T31 x0 (i : Int) = x0[i] := by unfold rd_T31; rw [Int.toNat_natCast, List.getD_eq_getElem?_getD, List.getElem?_eq_getElem h0]; rfl
    have r1 : rd_T31 x1 (i : Int) = x1[i] := by unfold rd_T31; rw [Int.toNat_natCast, List.getD_eq_getElem?_getD, List.getElem?_eq_getElem h1]; rfl
    have d0 : x0.drop i = x0[i] :: x0.drop (i + 1) := List.drop_eq_getElem_cons h0
    have d1 : x1.drop i = x1[i] :: x1.drop (i + 1) := List.drop_eq_getElem_cons h1
    unfold silhouetteref12_Same.l0
    rw [if_pos (by omega), if_pos (by omega), if_pos (by omega), r0, r1, d0, d1]
    generalize x0[i] = a
    generalize x1[i] = b
    obtain ⟨c, hc, hb⟩ := ih (i + 1) (by omega)
    by_cases hab : a = b
    · subst hab
      rw [if_neg (by simp), w64' (by omega) (by omega), show ((i : Int) + 1) = ((i + 1 : Nat) : Int) by omega, hc]
      exact ⟨c, rfl, by rw [hb]; simp⟩
    · refine ⟨false, ?_, by simp [hab]⟩
      rw [if_pos]
      by_cases g0 : a.f0 = b.f0
      · by_cases g1 : a.f1 = b.f1
        · by_cases g2 : a.f2 = b.f2
          · by_cases g3 : a.f3 = b.f3
            · by_cases g4 : a.f4 = b.f4
              · by_cases g5 : a.f5 = b.f5
                · by_cases g6 : a.f6 = b.f6
                  · exact absurd (S31.ext' g0 g1 g2 g3 g4 g5 g6) hab
                  · simp [g6]
                · simp [g5]
              · simp [g4]
            · simp [g3]
          · simp [g2]
        · simp [g1]
      · simp [g0]
theorem same_law (x0 x1 : List S31) (hl : x0.length ≤ 1000000000) : ∃ b, silhouetteref12_Same.f (x0.length + 1) x0 x1 = some b ∧ (b = true ↔ x0 = x1) := by
  unfold silhouetteref12_Same.f
  by_cases he : x0.length = x1.length
  · rw [if_pos (by omega)]
    obtain ⟨b, h, hb⟩ := same_loop x0 x1 hl he x0.length 0 (by omega)
    exact ⟨b, h, hb⟩
  · rw [if_neg (by omega)]
    exact ⟨false, rfl, by simp; intro e; rw [e] at he; exact he rfl⟩
end Go.Proofs.Ytmifcdmkobammaa.Q
/- Layer 12: what is written is read again, in plain Lean. -/
namespace Go.Proofs.Ytmifcdmkobammaa.ScriptWalk
open Go.RowKit Go.Proofs.Ytmifcdmkobammaa.Parts
theorem many_app (x : Int) (l m : List Int) : many x (l ++ m) = many (many x l) m := by simp [many]
theorem many_top (a : Int) (h0 : 0 ≤ a) (h1 : a < 18446744073709551616) : many 0 (top a 8) = a := by
  have step : ∀ (x y b : Int), 0 ≤ y → y < 18446744073709551616 → x = y / 256 → b = y % 256 → (x * 256 + b) % 18446744073709551616 = y := by
    intro x y b g0 g1 hx hb
    subst hx hb
    omega
  have e : top a 8 = [a / 72057594037927936 % 256, a / 281474976710656 % 256, a / 1099511627776 % 256, a / 4294967296 % 256, a / 16777216 % 256, a / 65536 % 256, a / 256 % 256, a / 1 % 256] := by
    rfl
  rw [e]
  unfold many
  simp only [List.foldl]
  rw [step 0 (a / 72057594037927936) _ (by omega) (by omega) (by omega) rfl]
  rw [step _ (a / 281474976710656) _ (by omega) (by omega) (by omega) rfl]
  rw [step _ (a / 1099511627776) _ (by omega) (by omega) (by omega) rfl]
  rw [step _ (a / 4294967296) _ (by omega) (by omega) (by omega) rfl]
  rw [step _ (a / 16777216) _ (by omega) (by omega) (by omega) rfl]
  rw [step _ (a / 65536) _ (by omega) (by omega) (by omega) rfl]
  rw [step _ (a / 256) _ (by omega) (by omega) (by omega) rfl]
  rw [step _ (a / 1) _ (by omega) (by omega) (by omega) rfl]
  omega
theorem read_step (c : UInt8) (L : List UInt8) (f : Five) (w ys : List Int) (h : w.length = width c) : readAll (c :: L) f (w ++ ys) = readAll L (readOne c f (w ++ ys)) ys := by
  unfold readAll
  rw [if_neg (by rw [List.length_append]; omega), ← h, List.drop_left]
  cases L <;> rfl
theorem one_A (f : Five) (a : Int) (ys : List Int) : readOne 65 f (top a 8 ++ ys) = { f with a := many f.a (top a 8) } := by
  show ({ f with a := many f.a ((top a 8 ++ ys).take 8) } : Five) = _
  rw [List.take_left' (top_len a 8)]
theorem one_V (f : Five) (a : Int) (ys : List Int) : readOne 86 f (top a 8 ++ ys) = { f with v := many f.v (top a 8) } := by
  show ({ f with v := many f.v ((top a 8 ++ ys).take 8) } : Five) = _
  rw [List.take_left' (top_len a 8)]
/-- What is written of an operation's parts is read again. -/
theorem read_wrote (k a v g i n : Int) (ys : List Int) (ha : 0 ≤ a ∧ a < 18446744073709551616) (hv : 0 ≤ v ∧ v < 18446744073709551616) (hg : 0 ≤ g ∧ g < 256) (hi : 0 ≤ i ∧ i < 256) (hn : 0 ≤ n ∧ n < 256) :
    readAll (letters k) five0 (wroteAll a v g i n (letters k) ++ ys) = some (⟨own k 65 a, own k 86 v, own k 71 g, own k 73 i, own k 78 n⟩, ys) := by
  have eg : g % 256 = g := by omega
  have ei : i % 256 = i := by omega
  have en : n % 256 = n := by omega
  have w0 : wrote a v g i n 117 = [] := rfl
  have w1 : wrote a v g i n 65 = top a 8 := rfl
  have w2 : wrote a v g i n 86 = top v 8 := rfl
  have w3 : wrote a v g i n 71 = [g] := by rw [← eg]; exact congrArg (fun z => [z]) (by omega)
  have w4 : wrote a v g i n 73 = [i] := by rw [← ei]; exact congrArg (fun z => [z]) (by omega)
  have w5 : wrote a v g i n 78 = [n] := by rw [← en]; exact congrArg (fun z => [z]) (by omega)
  rcases kinds k with rfl | rfl | rfl | rfl | rfl | rfl | rfl | rfl | rfl | h
  · show readAll [117, 65] five0 (wroteAll a v g i n [117, 65] ++ ys) = _
    rw [show wroteAll a v g i n [117, 65] ++ ys = [] ++ (top a 8 ++ ys) by simp [wroteAll, w0, w1], read_step 117 _ _ [] _ rfl, read_step 65 _ _ _ _ (top_len a 8), one_A]
    show some (({ five0 with a := many 0 (top a 8) } : Five), ys) = _
    rw [many_top a ha.1 ha.2]; rfl
  · show readAll [117, 65, 86] five0 (wroteAll a v g i n [117, 65, 86] ++ ys) = _
    rw [show wroteAll a v g i n [117, 65, 86] ++ ys = [] ++ (top a 8 ++ (top v 8 ++ ys)) by simp [wroteAll, w0, w1, w2], read_step 117 _ _ [] _ rfl, read_step 65 _ _ _ _ (top_len a 8), one_A, read_step 86 _ _ _ _ (top_len v 8), one_V]
    show some ((⟨many 0 (top a 8), many 0 (top v 8), 0, 0, 0⟩ : Five), ys) = _
    rw [many_top a ha.1 ha.2, many_top v hv.1 hv.2]; rfl
  · show readAll [117, 65] five0 (wroteAll a v g i n [117, 65] ++ ys) = _
    rw [show wroteAll a v g i n [117, 65] ++ ys = [] ++ (top a 8 ++ ys) by simp [wroteAll, w0, w1], read_step 117 _ _ [] _ rfl, read_step 65 _ _ _ _ (top_len a 8), one_A]
    show some (({ five0 with a := many 0 (top a 8) } : Five), ys) = _
    rw [many_top a ha.1 ha.2]; rfl
  · show readAll [65] five0 (wroteAll a v g i n [65] ++ ys) = _
    rw [show wroteAll a v g i n [65] ++ ys = top a 8 ++ ys by simp [wroteAll, w1], read_step 65 _ _ _ _ (top_len a 8), one_A]
    show some (({ five0 with a := many 0 (top a 8) } : Five), ys) = _
    rw [many_top a ha.1 ha.2]; rfl
  · show readAll [71] five0 (wroteAll a v g i n [71] ++ ys) = _
    rw [show wroteAll a v g i n [71] ++ ys = [g] ++ ys by simp [wroteAll, w3], read_step 71 _ _ [g] _ rfl]; rfl
  · show readAll [71, 73, 86] five0 (wroteAll a v g i n [71, 73, 86] ++ ys) = _
    rw [show wroteAll a v g i n [71, 73, 86] ++ ys = [g] ++ ([i] ++ (top v 8 ++ ys)) by simp [wroteAll, w2, w3, w4], read_step 71 _ _ [g] _ rfl, read_step 73 _ _ [i] _ rfl, read_step 86 _ _ _ _ (top_len v 8), one_V]
    show some ((⟨0, many 0 (top v 8), g, i, 0⟩ : Five), ys) = _
    rw [many_top v hv.1 hv.2]; rfl
  · show readAll [78] five0 (wroteAll a v g i n [78] ++ ys) = _
    rw [show wroteAll a v g i n [78] ++ ys = [n] ++ ys by simp [wroteAll, w5], read_step 78 _ _ [n] _ rfl]; rfl
  · show readAll [65] five0 (wroteAll a v g i n [65] ++ ys) = _
    rw [show wroteAll a v g i n [65] ++ ys = top a 8 ++ ys by simp [wroteAll, w1], read_step 65 _ _ _ _ (top_len a 8), one_A]
    show some (({ five0 with a := many 0 (top a 8) } : Five), ys) = _
    rw [many_top a ha.1 ha.2]; rfl
  · show readAll [78] five0 (wroteAll a v g i n [78] ++ ys) = _
    rw [show wroteAll a v g i n [78] ++ ys = [n] ++ ys by simp [wroteAll, w5], read_step 78 _ _ [n] _ rfl]; rfl
  · unfold own; rw [letters_no h]; rfl
end Go.Proofs.Ytmifcdmkobammaa.ScriptWalk
/- Layer 12: operations' bytes, one behind the other, are read as those operations, up to what is none. -/
namespace Go.Proofs.Ytmifcdmkobammaa.ScriptWalk
open Go.RowKit Go.Proofs.Ytmifcdmkobammaa.Parts Go.Proofs.Ytmifcdmkobammaa.Q
def wide31 (o : S31) : List Int := (if o.f1 = true then o.f0 + 128 else o.f0) :: wroteAll o.f2 o.f3 o.f4 o.f5 o.f6 (letters o.f0)
theorem right31_facts {o : S31} (h : right31 o = true) : 0 ≤ o.f0 ∧ o.f0 ≤ 8 ∧ 0 ≤ o.f4 ∧ o.f4 < 256 ∧ 0 ≤ o.f6 ∧ o.f6 < 256 ∧ 0 ≤ o.f5 ∧ o.f5 < 8 ∧ own o.f0 65 o.f2 = o.f2 ∧ own o.f0 86 o.f3 = o.f3 ∧ own o.f0 71 o.f4 = o.f4 ∧ own o.f0 73 o.f5 = o.f5 ∧ own o.f0 78 o.f6 = o.f6 := by
  unfold right31 rightB at h
  simp only [Bool.and_eq_true, Bool.not_eq_true', decide_eq_true_eq, List.isEmpty_eq_false_iff] at h
  obtain ⟨h1, _, ⟨q1, q2, q3, q4, q5⟩, h4, h5, h6, h7, h8, h9⟩ := h
  have hk : 0 ≤ o.f0 ∧ o.f0 ≤ 8 := by
    rcases kinds o.f0 with e | e | e | e | e | e | e | e | e | e
    iterate 9 · omega
    · exact absurd (by unfold pt; rw [letters_no e]; decide +kernel) h1
  exact ⟨hk.1, hk.2, h4, h5, h6, h7, h8, h9, q1, q2, q3, q4, q5⟩
theorem getL_cons (n0 k : Nat) (out : List S31) (x : Int) (xs : List Int) : getL n0 (k + 1) out (x :: xs) = match readAll (letters (x % 128)) five0 xs with
    | none => some (out, (n0 : Int) - ((xs.length : Int) + 1), 12)
    | some (f, ys) => if right31 (mk31 x f) = true then getL n0 k (out ++ [mk31 x f]) ys else some (out, (n0 : Int) - ((xs.length : Int) + 1), 12) := rfl
theorem getL_one (n0 k : Nat) (out : List S31) (o : S31) (ys : List Int) (hr : right31 o = true) (hf : Open.Fit o) : getL n0 (k + 1) out (wide31 o ++ ys) = getL n0 k (out ++ [o]) ys := by
  obtain ⟨k0, k8, g0, g1, n0', n1, i0, i1, q1, q2, q3, q4, q5⟩ := right31_facts hr
  have hm : (if o.f1 = true then o.f0 + 128 else o.f0) % 128 = o.f0 := by split <;> omega
  have hu : decide (128 ≤ (if o.f1 = true then o.f0 + 128 else o.f0)) = o.f1 := by
    cases h : o.f1
    · rw [if_neg (by decide)]; exact decide_eq_false (by omega)
    · rw [if_pos rfl]; exact decide_eq_true (by omega)
  have hread := read_wrote o.f0 o.f2 o.f3 o.f4 o.f5 o.f6 ys hf.2.1 hf.2.2.1 ⟨g0, g1⟩ ⟨i0, by omega⟩ ⟨n0', n1⟩
  rw [q1, q2, q3, q4, q5] at hread
  show getL n0 (k + 1) out ((if o.f1 = true then o.f0 + 128 else o.f0) :: (wroteAll o.f2 o.f3 o.f4 o.f5 o.f6 (letters o.f0) ++ ys)) = _
  rw [getL_cons, hm, hread]
  have hmk : mk31 (if o.f1 = true then o.f0 + 128 else o.f0) ⟨o.f2, o.f3, o.f4, o.f5, o.f6⟩ = o := by
    unfold mk31; rw [hm, hu]
  simp only [hmk, hr, if_true]
theorem getL_all (n0 : Nat) (ys : List Int) : ∀ (l : List S31) (k : Nat) (out : List S31), l.all right31 = true → (∀ o ∈ l, Open.Fit o) → getL n0 (k + l.length) out (l.flatMap wide31 ++ ys) = getL n0 k (out ++ l) ys := by
  intro l
  induction l with
  | nil => intro k out _ _; simp
  | cons o l ih =>
    intro k out hr hf
    simp only [List.all_cons, Bool.and_eq_true] at hr
    rw [List.flatMap_cons, List.append_assoc, List.length_cons, ← Nat.add_assoc, getL_one n0 _ out o _ hr.1 (hf o List.mem_cons_self), ih k _ hr.2 (fun p hp => hf p (List.mem_cons_of_mem _ hp)), List.append_assoc]
    rfl
end Go.Proofs.Ytmifcdmkobammaa.ScriptWalk
/- Layer 12: words for the plain laws. -/
namespace Go.Proofs.Ytmifcdmkobammaa.Q
open Go.RowKit Go.Proofs.YtmifcdmkobammaaW.PrintWords Go.Proofs.YtmifcdmkobammaaW.PrintLast Go.Proofs.YtmifcdmkobammaaW.PrintMore Go.Proofs.Ytmifcdmkobammaa.ScriptWalk Go.Proofs.Ytmifcdmkobammaa.Parts
theorem lift {α : Type} {f : Nat → Option α} (h : ∀ k, LeO (f k) (f (k + 1))) {n m : Nat} (hm : n ≤ m) {r : α} (hr : f n = some r) : f m = some r := by
  induction m with
  | zero => have : n = 0 := by omega
            subst this; exact hr
  | succ m ih =>
    rcases Nat.lt_or_ge n (m + 1) with h1 | h1
    · exact h m r (ih (by omega))
    · have : n = m + 1 := by omega
      subst this; exact hr
theorem put_at (l : List S31) (hl : l.length ≤ 1000000000) {K : Nat} (hK : l.length + 1 ≤ K) : script_Put.f K l = some (putAll l) :=
  lift (f := fun k => script_Put.f k l) (fun k => script_Put.mono l k) hK (put_law l hl)
theorem same_at (x0 x1 : List S31) (hl : x0.length ≤ 1000000000) {K : Nat} (hK : x0.length + 1 ≤ K) : ∃ b, silhouetteref12_Same.f K x0 x1 = some b ∧ (b = true ↔ x0 = x1) := by
  obtain ⟨b, h, hb⟩ := same_law x0 x1 hl
  exact ⟨b, lift (f := fun k => silhouetteref12_Same.f k x0 x1) (fun k => silhouetteref12_Same.mono x0 x1 k) hK h, hb⟩
theorem same_refl (x : List S31) (hl : x.length ≤ 1000000000) {K : Nat} (hK : x.length + 1 ≤ K) : silhouetteref12_Same.f K x x = some true := by
  obtain ⟨b, h, hb⟩ := same_at x x hl hK
  rw [hb.2 rfl] at h; exact h
theorem bytes_wide {o : S31} : bytes31 o = wide31 o := rfl
theorem top_byte (a : Int) (j : Nat) : ∀ y ∈ top a j, 0 ≤ y ∧ y < 256 := by
  intro y hy
  unfold top at hy
  obtain ⟨q, _, rfl⟩ := List.mem_map.1 hy
  omega
theorem wrote_byte (a v g i n : Int) (c : UInt8) : ∀ y ∈ wrote a v g i n c, 0 ≤ y ∧ y < 256 := by
  intro y hy
  unfold wrote at hy
  split at hy
  · exact top_byte _ _ y hy
  split at hy
  · exact top_byte _ _ y hy
  split at hy
  · simp at hy; omega
  split at hy
  · simp at hy; omega
  split at hy
  · simp at hy; omega
  · cases hy
theorem wide_byte {o : S31} (h : right31 o = true) : ∀ y ∈ wide31 o, 0 ≤ y ∧ y < 256 := by
  intro y hy
  obtain ⟨k0, k8, _⟩ := right31_facts h
  unfold wide31 at hy
  rcases List.mem_cons.1 hy with rfl | hy
  · split <;> omega
  · obtain ⟨c, _, hc⟩ := List.mem_flatMap.1 hy
    exact wrote_byte _ _ _ _ _ c y hc
theorem put_right {l : List S31} (h : l.all right31 = true) : putAll l = l.flatMap wide31 := if_pos h
theorem put_wrong {l : List S31} (h : l.all right31 = false) : putAll l = [] := by unfold putAll; rw [h]; rfl
theorem flat_byte {l : List S31} (h : l.all right31 = true) : ∀ y ∈ l.flatMap wide31, 0 ≤ y ∧ y < 256 := by
  intro y hy
  obtain ⟨o, ho, hy⟩ := List.mem_flatMap.1 hy
  exact wide_byte (List.all_eq_true.1 h o ho) y hy
theorem flat_len (l : List S31) : (l.flatMap wide31).length ≤ 25 * l.length := by
  induction l with
  | nil => simp
  | cons o l ih =>
    have := bytes31_len o
    rw [bytes_wide] at this
    rw [List.flatMap_cons, List.length_append, List.length_cons]; omega
theorem flat_none {l : List S31} (h : (l.flatMap wide31).length = 0) : l = [] := by
  cases l with
  | nil => rfl
  | cons o l => rw [List.flatMap_cons, List.length_append] at h; simp [wide31] at h
/-- script.Get of right operations' bytes and of a byte that begins none. -/
theorem get_at (l : List S31) (ys : List Int) (c : Int) (hr : l.all right31 = true) (hf : ∀ o ∈ l, Open.Fit o) (hl : l.length ≤ 10000000) (hy : ys.length ≤ 10000000) (hb : ∀ y ∈ ys, 0 ≤ y ∧ y < 256) (hc : 9 ≤ c) (hc1 : c < 128) {K : Nat} (hK : l.length + 1 ≤ K) :
    script_Get.f K (l.flatMap wide31 ++ c :: ys) = some (l, ((l.flatMap wide31).length : Int), 12) := by
  have hlen := flat_len l
  have hbytes : ∀ y ∈ l.flatMap wide31 ++ c :: ys, 0 ≤ y ∧ y < 256 := by
    intro y hy'
    rcases List.mem_append.1 hy' with h | h
    · exact flat_byte hr y h
    · rcases List.mem_cons.1 h with rfl | h
      · omega
      · exact hb y h
  unfold script_Get.f
  rw [if_pos ⟨hbytes, by rw [List.length_append, List.length_cons]; omega⟩]
  obtain ⟨j, rfl⟩ : ∃ j, K = (j + 1) + l.length := ⟨K - 1 - l.length, by omega⟩
  rw [getL_all _ _ l (j + 1) [] hr hf, getL_cons, show c % 128 = c by omega, letters_no (k := c) (by omega)]
  have hw : right31 (mk31 c five0) = false := by
    cases h : right31 (mk31 c five0) with
    | false => rfl
    | true =>
      obtain ⟨_, h8, _⟩ := right31_facts h
      have : (mk31 c five0).f0 = c % 128 := rfl
      omega
  show (if right31 (mk31 c five0) = true then _ else _) = _
  rw [hw, if_neg (by decide), List.nil_append, List.length_append, List.length_cons]
  congr 2
  congr 1
  omega
end Go.Proofs.Ytmifcdmkobammaa.Q
/- Layer 12: what is read of any bytes is written as those bytes, in plain Lean. -/
namespace Go.Proofs.Ytmifcdmkobammaa.ScriptWalk
open Go.RowKit Go.Proofs.Ytmifcdmkobammaa.Parts Go.Proofs.Ytmifcdmkobammaa.Q
theorem many_lt (x : Int) (l : List Int) (h : 0 ≤ x ∧ x < 18446744073709551616) : 0 ≤ many x l ∧ many x l < 18446744073709551616 := by
  induction l generalizing x with
  | nil => exact h
  | cons y l ih =>
    show 0 ≤ many ((x * 256 + y) % 18446744073709551616) l ∧ many ((x * 256 + y) % 18446744073709551616) l < 18446744073709551616
    exact ih _ ⟨by omega, by omega⟩
theorem top_many (l : List Int) (hl : l.length = 8) (hb : ∀ y ∈ l, 0 ≤ y ∧ y < 256) : top (many 0 l) 8 = l := by
  match l, hl with
  | [a, b, c, d, e, f, g, h], _ =>
    obtain ⟨a0, a1⟩ := hb a (by simp)
    obtain ⟨b0, b1⟩ := hb b (by simp)
    obtain ⟨c0, c1⟩ := hb c (by simp)
    obtain ⟨d0, d1⟩ := hb d (by simp)
    obtain ⟨e0, e1⟩ := hb e (by simp)
    obtain ⟨f0, f1⟩ := hb f (by simp)
    obtain ⟨g0, g1⟩ := hb g (by simp)
    obtain ⟨h0, h1⟩ := hb h (by simp)
    have e8 : ∀ a : Int, top a 8 = [a / 72057594037927936 % 256, a / 281474976710656 % 256, a / 1099511627776 % 256, a / 4294967296 % 256, a / 16777216 % 256, a / 65536 % 256, a / 256 % 256, a / 1 % 256] := fun _ => rfl
    have st : ∀ (m y q : Int), 0 ≤ m → m < q → q * 256 ≤ 18446744073709551616 → 0 ≤ y → y < 256 → (m * 256 + y) % 18446744073709551616 = m * 256 + y := by
      intro m y q h1 h2 h3 h4 h5; omega
    rw [e8]
    simp only [many, List.foldl]
    rw [st 0 a 1 (by omega) (by omega) (by omega) a0 a1]
    rw [st _ b 256 (by omega) (by omega) (by omega) b0 b1]
    rw [st _ c 65536 (by omega) (by omega) (by omega) c0 c1]
    rw [st _ d 16777216 (by omega) (by omega) (by omega) d0 d1]
    rw [st _ e 4294967296 (by omega) (by omega) (by omega) e0 e1]
    rw [st _ f 1099511627776 (by omega) (by omega) (by omega) f0 f1]
    rw [st _ g 281474976710656 (by omega) (by omega) (by omega) g0 g1]
    rw [st _ h 72057594037927936 (by omega) (by omega) (by omega) h0 h1]
    congr 1
    · omega
    congr 1
    · omega
    congr 1
    · omega
    congr 1
    · omega
    congr 1
    · omega
    congr 1
    · omega
    congr 1
    · omega
    congr 1
    · omega
theorem readAll_inv {c : UInt8} {L : List UInt8} {f : Five} {ys : List Int} {r : Five × List Int} (h : readAll (c :: L) f ys = some r) : ∃ w zs, w.length = width c ∧ ys = w ++ zs ∧ readAll L (readOne c f (w ++ zs)) zs = some r := by
  unfold readAll at h
  by_cases hw : ys.length < width c
  · rw [if_pos hw] at h; cases h
  · rw [if_neg hw] at h
    refine ⟨ys.take (width c), ys.drop (width c), by rw [List.length_take]; omega, (List.take_append_drop _ _).symm, ?_⟩
    rw [List.take_append_drop]
    exact h
theorem inv_u {L : List UInt8} {f : Five} {ys : List Int} {r : Five × List Int} (h : readAll (117 :: L) f ys = some r) : readAll L f ys = some r := by
  obtain ⟨w, zs, hw, rfl, hr⟩ := readAll_inv h
  have : w = [] := List.length_eq_zero_iff.1 hw
  subst this
  exact hr
theorem inv_A {L : List UInt8} {f : Five} {ys : List Int} {r : Five × List Int} (h : readAll (65 :: L) f ys = some r) : ∃ w zs, w.length = 8 ∧ ys = w ++ zs ∧ readAll L { f with a := many f.a w } zs = some r := by
  obtain ⟨w, zs, hw, rfl, hr⟩ := readAll_inv h
  refine ⟨w, zs, hw, rfl, ?_⟩
  rw [← hr]
  show _ = readAll L ({ f with a := many f.a ((w ++ zs).take 8) } : Five) zs
  rw [List.take_left' (show w.length = 8 from hw)]
theorem inv_V {L : List UInt8} {f : Five} {ys : List Int} {r : Five × List Int} (h : readAll (86 :: L) f ys = some r) : ∃ w zs, w.length = 8 ∧ ys = w ++ zs ∧ readAll L { f with v := many f.v w } zs = some r := by
  obtain ⟨w, zs, hw, rfl, hr⟩ := readAll_inv h
  refine ⟨w, zs, hw, rfl, ?_⟩
  rw [← hr]
  show _ = readAll L ({ f with v := many f.v ((w ++ zs).take 8) } : Five) zs
  rw [List.take_left' (show w.length = 8 from hw)]
theorem len_one {w : List Int} (h : w.length = 1) : ∃ y, w = [y] := by
  match w, h with
  | [y], _ => exact ⟨y, rfl⟩
theorem inv_G {L : List UInt8} {f : Five} {ys : List Int} {r : Five × List Int} (h : readAll (71 :: L) f ys = some r) : ∃ y zs, ys = y :: zs ∧ readAll L { f with g := y } zs = some r := by
  obtain ⟨w, zs, hw, rfl, hr⟩ := readAll_inv h
  obtain ⟨y, rfl⟩ := len_one hw
  exact ⟨y, zs, rfl, hr⟩
theorem inv_I {L : List UInt8} {f : Five} {ys : List Int} {r : Five × List Int} (h : readAll (73 :: L) f ys = some r) : ∃ y zs, ys = y :: zs ∧ readAll L { f with i := y } zs = some r := by
  obtain ⟨w, zs, hw, rfl, hr⟩ := readAll_inv h
  obtain ⟨y, rfl⟩ := len_one hw
  exact ⟨y, zs, rfl, hr⟩
theorem inv_N {L : List UInt8} {f : Five} {ys : List Int} {r : Five × List Int} (h : readAll (78 :: L) f ys = some r) : ∃ y zs, ys = y :: zs ∧ readAll L { f with n := y } zs = some r := by
  obtain ⟨w, zs, hw, rfl, hr⟩ := readAll_inv h
  obtain ⟨y, rfl⟩ := len_one hw
  exact ⟨y, zs, rfl, hr⟩
/-- What is read is written so. -/
def Tells (k : Int) (f : Five) (zs ys : List Int) : Prop := wroteAll f.a f.v f.g f.i f.n (letters k) ++ zs = ys ∧ (0 ≤ f.a ∧ f.a < 18446744073709551616) ∧ (0 ≤ f.v ∧ f.v < 18446744073709551616) ∧ (0 ≤ f.g ∧ f.g < 256) ∧ (0 ≤ f.i ∧ f.i < 256) ∧ (0 ≤ f.n ∧ f.n < 256) ∧
  own k 65 f.a = f.a ∧ own k 86 f.v = f.v ∧ own k 71 f.g = f.g ∧ own k 73 f.i = f.i ∧ own k 78 f.n = f.n
theorem done_of {f f' : Five} {ys zs : List Int} (h : readAll [] f ys = some (f', zs)) : f' = f ∧ zs = ys := by
  unfold readAll at h
  simp only [Option.some.injEq, Prod.mk.injEq] at h
  exact ⟨h.1.symm, h.2.symm⟩
theorem tells_of {k : Int} {f : Five} {ys zs : List Int} (hb : ∀ y ∈ ys, 0 ≤ y ∧ y < 256) (h : readAll (letters k) five0 ys = some (f, zs)) : Tells k f zs ys := by
  have z0 : (0 : Int) ≤ 0 ∧ (0 : Int) < 18446744073709551616 := by omega
  have z1 : (0 : Int) ≤ 0 ∧ (0 : Int) < 256 := by omega
  have w0 : ∀ a v g i n, wrote a v g i n 117 = [] := fun _ _ _ _ _ => rfl
  have w1 : ∀ a v g i n, wrote a v g i n 65 = top a 8 := fun _ _ _ _ _ => rfl
  have w2 : ∀ a v g i n, wrote a v g i n 86 = top v 8 := fun _ _ _ _ _ => rfl
  have w3 : ∀ a v g i n, wrote a v g i n 71 = [g % 256] := fun _ _ _ _ _ => rfl
  have w4 : ∀ a v g i n, wrote a v g i n 73 = [i % 256] := fun _ _ _ _ _ => rfl
  have w5 : ∀ a v g i n, wrote a v g i n 78 = [n % 256] := fun _ _ _ _ _ => rfl
  have A1 : ∀ {m}, letters m = [117, 65] → readAll (letters m) five0 ys = some (f, zs) → (∃ w, w.length = 8 ∧ ys = w ++ zs ∧ f = ⟨many 0 w, 0, 0, 0, 0⟩) := by
    intro m e q
    rw [e] at q
    obtain ⟨w, zs', hw, ey, q2⟩ := inv_A (inv_u q)
    obtain ⟨rfl, rfl⟩ := done_of q2
    exact ⟨w, hw, ey, rfl⟩
  have A2 : ∀ {m}, letters m = [65] → readAll (letters m) five0 ys = some (f, zs) → (∃ w, w.length = 8 ∧ ys = w ++ zs ∧ f = ⟨many 0 w, 0, 0, 0, 0⟩) := by
    intro m e q
    rw [e] at q
    obtain ⟨w, zs', hw, ey, q2⟩ := inv_A q
    obtain ⟨rfl, rfl⟩ := done_of q2
    exact ⟨w, hw, ey, rfl⟩
  have sub : ∀ {w : List Int}, ys = w ++ zs → ∀ y ∈ w, 0 ≤ y ∧ y < 256 := fun e y hy => hb y (by rw [e]; exact List.mem_append_left _ hy)
  rcases kinds k with rfl | rfl | rfl | rfl | rfl | rfl | rfl | rfl | rfl | hk
  · obtain ⟨w, hw, e, rfl⟩ := A1 rfl h
    refine ⟨?_, many_lt 0 w z0, z0, z1, z1, z1, rfl, rfl, rfl, rfl, rfl⟩
    show wroteAll _ _ _ _ _ [117, 65] ++ zs = ys
    simp only [wroteAll, List.flatMap_cons, List.flatMap_nil, w0, w1, List.nil_append, List.append_nil, top_many w hw (sub e), e]
  · have h' : readAll [117, 65, 86] five0 ys = some (f, zs) := h
    obtain ⟨w, zs', hw, e, h'⟩ := inv_A (inv_u h')
    obtain ⟨u, zs'', hu, e', h'⟩ := inv_V h'
    obtain ⟨rfl, rfl⟩ := done_of h'
    subst e'
    have hbw : ∀ y ∈ w, 0 ≤ y ∧ y < 256 := fun y hy => hb y (by rw [e]; exact List.mem_append_left _ hy)
    have hbu : ∀ y ∈ u, 0 ≤ y ∧ y < 256 := fun y hy => hb y (by rw [e]; exact List.mem_append_right _ (List.mem_append_left _ hy))
    refine ⟨?_, many_lt 0 w z0, many_lt 0 u z0, z1, z1, z1, rfl, rfl, rfl, rfl, rfl⟩
    show wroteAll (many 0 w) (many 0 u) _ _ _ [117, 65, 86] ++ zs = ys
    simp only [wroteAll, List.flatMap_cons, List.flatMap_nil, w0, w1, w2, List.nil_append, List.append_nil, top_many w hw hbw, top_many u hu hbu, e, List.append_assoc]
  · obtain ⟨w, hw, e, rfl⟩ := A1 rfl h
    refine ⟨?_, many_lt 0 w z0, z0, z1, z1, z1, rfl, rfl, rfl, rfl, rfl⟩
    show wroteAll _ _ _ _ _ [117, 65] ++ zs = ys
    simp only [wroteAll, List.flatMap_cons, List.flatMap_nil, w0, w1, List.nil_append, List.append_nil, top_many w hw (sub e), e]
  · obtain ⟨w, hw, e, rfl⟩ := A2 rfl h
    refine ⟨?_, many_lt 0 w z0, z0, z1, z1, z1, rfl, rfl, rfl, rfl, rfl⟩
    show wroteAll _ _ _ _ _ [65] ++ zs = ys
    simp only [wroteAll, List.flatMap_cons, List.flatMap_nil, w1, List.append_nil, top_many w hw (sub e), e]
  · have h' : readAll [71] five0 ys = some (f, zs) := h
    obtain ⟨y, zs', e, h'⟩ := inv_G h'
    obtain ⟨rfl, rfl⟩ := done_of h'
    have hy := hb y (by rw [e]; simp)
    refine ⟨?_, z0, z0, hy, z1, z1, rfl, rfl, rfl, rfl, rfl⟩
    show wroteAll _ _ _ _ _ [71] ++ zs = ys
    simp only [wroteAll, List.flatMap_cons, List.flatMap_nil, w3, e, List.append_nil, List.singleton_append]
    congr 1
    omega
  · have h' : readAll [71, 73, 86] five0 ys = some (f, zs) := h
    obtain ⟨y, zs', e, h'⟩ := inv_G h'
    obtain ⟨x, zs'', e', h'⟩ := inv_I h'
    obtain ⟨u, zs3, hu, e'', h'⟩ := inv_V h'
    obtain ⟨rfl, rfl⟩ := done_of h'
    subst e''; subst e'
    have hy := hb y (by rw [e]; simp)
    have hx := hb x (by rw [e]; simp)
    have hbu : ∀ y ∈ u, 0 ≤ y ∧ y < 256 := fun y hy => hb y (by rw [e]; simp [hy])
    refine ⟨?_, z0, many_lt 0 u z0, hy, hx, z1, rfl, rfl, rfl, rfl, rfl⟩
    show wroteAll 0 (many 0 u) y x 0 [71, 73, 86] ++ zs = ys
    simp only [wroteAll, List.flatMap_cons, List.flatMap_nil, w3, w4, w2, e, List.append_nil, top_many u hu hbu, List.cons_append, List.nil_append]
    congr 1
    · omega
    congr 1
    omega
  · have h' : readAll [78] five0 ys = some (f, zs) := h
    obtain ⟨y, zs', e, h'⟩ := inv_N h'
    obtain ⟨rfl, rfl⟩ := done_of h'
    have hy := hb y (by rw [e]; simp)
    refine ⟨?_, z0, z0, z1, z1, hy, rfl, rfl, rfl, rfl, rfl⟩
    show wroteAll _ _ _ _ _ [78] ++ zs = ys
    simp only [wroteAll, List.flatMap_cons, List.flatMap_nil, w5, e, List.append_nil, List.singleton_append]
    congr 1
    omega
  · obtain ⟨w, hw, e, rfl⟩ := A2 rfl h
    refine ⟨?_, many_lt 0 w z0, z0, z1, z1, z1, rfl, rfl, rfl, rfl, rfl⟩
    show wroteAll _ _ _ _ _ [65] ++ zs = ys
    simp only [wroteAll, List.flatMap_cons, List.flatMap_nil, w1, List.append_nil, top_many w hw (sub e), e]
  · have h' : readAll [78] five0 ys = some (f, zs) := h
    obtain ⟨y, zs', e, h'⟩ := inv_N h'
    obtain ⟨rfl, rfl⟩ := done_of h'
    have hy := hb y (by rw [e]; simp)
    refine ⟨?_, z0, z0, z1, z1, hy, rfl, rfl, rfl, rfl, rfl⟩
    show wroteAll _ _ _ _ _ [78] ++ zs = ys
    simp only [wroteAll, List.flatMap_cons, List.flatMap_nil, w5, e, List.append_nil, List.singleton_append]
    congr 1
    omega
  · rw [letters_no hk] at h
    obtain ⟨rfl, rfl⟩ := done_of h
    refine ⟨?_, z0, z0, z1, z1, z1, ?_, ?_, ?_, ?_, ?_⟩
    · rw [letters_no hk]; rfl
    all_goals (unfold own; rw [letters_no hk]; rfl)
theorem mk_wide {x : Int} {f : Five} {xs zs : List Int} (hb : ∀ y ∈ x :: xs, 0 ≤ y ∧ y < 256) (h : readAll (letters (x % 128)) five0 xs = some (f, zs)) : wide31 (mk31 x f) ++ zs = x :: xs ∧ Open.Fit (mk31 x f) := by
  have hx := hb x (by simp)
  obtain ⟨e, ha, hv, hg, hi, hn, _⟩ := tells_of (fun y hy => hb y (List.mem_cons_of_mem _ hy)) h
  refine ⟨?_, ⟨by show _ ≤ x % 128; omega, by show x % 128 < _; omega⟩, ha, hv, ⟨by have := hg.1; show _ ≤ f.g; omega, by have := hg.2; show f.g < _; omega⟩, ⟨by have := hi.1; show _ ≤ f.i; omega, by have := hi.2; show f.i < _; omega⟩, ⟨by have := hn.1; show _ ≤ f.n; omega, by have := hn.2; show f.n < _; omega⟩⟩
  show (if decide (128 ≤ x) = true then x % 128 + 128 else x % 128) :: (wroteAll f.a f.v f.g f.i f.n (letters (x % 128)) ++ zs) = x :: xs
  rw [e]
  congr 1
  by_cases h128 : 128 ≤ x
  · rw [if_pos (decide_eq_true h128)]; omega
  · rw [if_neg (by rw [decide_eq_false h128]; decide)]; omega
/-- script.Get of any bytes: what it tells is right, and its bytes are the first ones. -/
theorem getL_tells (n0 : Nat) : ∀ (k : Nat) (ys : List Int) (out : List S31), (∀ y ∈ ys, 0 ≤ y ∧ y < 256) → ys.length < k → ∃ (l : List S31) (zs : List Int) (e : Int), getL n0 k out ys = some (out ++ l, (n0 : Int) - (zs.length : Int), e) ∧ l.all right31 = true ∧ (∀ o ∈ l, Open.Fit o) ∧ ys = l.flatMap wide31 ++ zs ∧ l.length ≤ ys.length ∧ (e = 0 ∧ zs = [] ∨ e = 12 ∧ zs ≠ []) := by
  intro k
  induction k with
  | zero => intro ys out hb hk; omega
  | succ k ih =>
    intro ys out hb hk
    cases ys with
    | nil => exact ⟨[], [], 0, by simp [getL], rfl, by simp, rfl, by simp, .inl ⟨rfl, rfl⟩⟩
    | cons x xs =>
      rw [getL_cons]
      cases hr : readAll (letters (x % 128)) five0 xs with
      | none => exact ⟨[], x :: xs, 12, by simp, rfl, by simp, rfl, by simp, .inr ⟨rfl, by simp⟩⟩
      | some p =>
        obtain ⟨f, zs⟩ := p
        obtain ⟨hw, hfit⟩ := mk_wide hb hr
        dsimp only
        cases hri : right31 (mk31 x f) with
        | false =>
          rw [if_neg (by decide)]
          exact ⟨[], x :: xs, 12, by simp, rfl, by simp, rfl, by simp, .inr ⟨rfl, by simp⟩⟩
        | true =>
          rw [if_pos rfl]
          have hlen := readAll_len _ _ _ _ _ hr
          have hbz : ∀ y ∈ zs, 0 ≤ y ∧ y < 256 := fun y hy => hb y (by rw [← hw]; exact List.mem_append_right _ hy)
          obtain ⟨l, zs2, e, hg, ha, hf, he, hl, hend⟩ := ih zs (out ++ [mk31 x f]) hbz (by simp only [List.length_cons] at hk; omega)
          refine ⟨mk31 x f :: l, zs2, e, ?_, ?_, ?_, ?_, ?_, hend⟩
          · rw [hg, List.append_assoc, List.singleton_append]
          · rw [List.all_cons, hri, ha]; rfl
          · intro o ho
            rcases List.mem_cons.1 ho with rfl | ho
            · exact hfit
            · exact hf o ho
          · rw [List.flatMap_cons, List.append_assoc, ← he, hw]
          · simp only [List.length_cons]; omega
/-- How many bytes some letters take. -/
def widths (L : List UInt8) : Nat := (L.map width).sum
theorem readAll_short : ∀ (L : List UInt8) (f : Five) (ys : List Int), ys.length < widths L → readAll L f ys = none := by
  intro L
  induction L with
  | nil => intro f ys h; simp [widths] at h
  | cons c L ih =>
    intro f ys h
    unfold readAll
    by_cases hw : ys.length < width c
    · rw [if_pos hw]
    · rw [if_neg hw]
      have e : widths (c :: L) = width c + widths L := by simp [widths]
      exact ih _ _ (by rw [List.length_drop]; omega)
theorem wroteAll_widths (a v g i n : Int) (k : Int) : (wroteAll a v g i n (letters k)).length = widths (letters k) := by
  rcases kinds k with rfl | rfl | rfl | rfl | rfl | rfl | rfl | rfl | rfl | h
  iterate 9 · rfl
  · rw [letters_no h]; rfl
theorem wide_len (o : S31) : (wide31 o).length = 1 + widths (letters o.f0) := by
  unfold wide31; rw [List.length_cons, wroteAll_widths]; omega
/-- An operation's bytes, cut. -/
theorem getL_cut (n0 k : Nat) (out : List S31) (o : S31) (c : Nat) (hr : right31 o = true) (h0 : 0 < c) (hc : c < (wide31 o).length) : getL n0 (k + 1) out ((wide31 o).take c) = some (out, (n0 : Int) - (c : Int), 12) := by
  obtain ⟨c, rfl⟩ : ∃ d, c = d + 1 := ⟨c - 1, by omega⟩
  have hk := right31_facts hr
  have hm : (if o.f1 = true then o.f0 + 128 else o.f0) % 128 = o.f0 := by split <;> omega
  have hw := wide_len o
  rw [show wide31 o = (if o.f1 = true then o.f0 + 128 else o.f0) :: wroteAll o.f2 o.f3 o.f4 o.f5 o.f6 (letters o.f0) from rfl, List.take_succ_cons, getL_cons, hm]
  have hl := wroteAll_widths o.f2 o.f3 o.f4 o.f5 o.f6 o.f0
  rw [readAll_short _ _ _ (by rw [List.length_take]; omega)]
  simp only [List.length_take]
  congr 2
  congr 1
  omega
end Go.Proofs.Ytmifcdmkobammaa.ScriptWalk
/- Layer 12: more words for the plain laws: cut bytes, equal strings. -/
namespace Go.Proofs.Ytmifcdmkobammaa.Q
open Go.RowKit Go.Proofs.YtmifcdmkobammaaW.PrintWords Go.Proofs.YtmifcdmkobammaaW.PrintLast Go.Proofs.YtmifcdmkobammaaW.PrintMore Go.Proofs.Ytmifcdmkobammaa.ScriptWalk Go.Proofs.Ytmifcdmkobammaa.Parts
theorem rd_in (l : List S31) (i : Nat) (h : i < l.length) : rd_T31 l (i : Int) = l[i] := by
  unfold rd_T31; rw [Int.toNat_natCast, List.getD_eq_getElem?_getD, List.getElem?_eq_getElem h]; rfl
theorem right_at (o : S31) : script_Right.f o.f0 o.f1 o.f2 o.f3 o.f4 o.f5 o.f6 = some (right31 o) := rfl
theorem get_all (l : List S31) (hr : l.all right31 = true) (hf : ∀ o ∈ l, Open.Fit o) (hl : l.length ≤ 10000000) {K : Nat} (hK : l.length + 1 ≤ K) : script_Get.f K (l.flatMap wide31) = some (l, ((l.flatMap wide31).length : Int), 0) := by
  have hlen := flat_len l
  unfold script_Get.f
  rw [if_pos ⟨flat_byte hr, by omega⟩]
  obtain ⟨j, rfl⟩ : ∃ j, K = (j + 1) + l.length := ⟨K - 1 - l.length, by omega⟩
  have h := getL_all (l.flatMap wide31).length [] l (j + 1) [] hr hf
  rw [List.append_nil, List.nil_append] at h
  rw [h]; rfl
theorem get_some (ys : List Int) (hb : ∀ y ∈ ys, 0 ≤ y ∧ y < 256) (hl : ys.length ≤ 1000000000) {K : Nat} (hK : ys.length + 1 ≤ K) : ∃ (l : List S31) (zs : List Int) (e : Int), script_Get.f K ys = some (l, (ys.length : Int) - (zs.length : Int), e) ∧ l.all right31 = true ∧ (∀ o ∈ l, Open.Fit o) ∧ ys = l.flatMap wide31 ++ zs ∧ l.length ≤ ys.length ∧ (e = 0 ∧ zs = [] ∨ e = 12 ∧ zs ≠ []) := by
  obtain ⟨l, zs, e, hg, h⟩ := getL_tells ys.length K ys [] hb (by omega)
  refine ⟨l, zs, e, ?_, h⟩
  unfold script_Get.f
  rw [if_pos ⟨hb, hl⟩, hg, List.nil_append]
theorem flat_inj {a b : List S31} (ha : a.all right31 = true) (hb : b.all right31 = true) (fa : ∀ o ∈ a, Open.Fit o) (fb : ∀ o ∈ b, Open.Fit o) (la : a.length ≤ 10000000) (lb : b.length ≤ 10000000) (h : a.flatMap wide31 = b.flatMap wide31) : a = b := by
  have h1 := get_all a ha fa la (K := a.length + b.length + 1) (by omega)
  have h2 := get_all b hb fb lb (K := a.length + b.length + 1) (by omega)
  rw [h, h2] at h1
  simp only [Option.some.injEq, Prod.mk.injEq] at h1
  exact h1.1.symm
theorem bytes_inj {p q : List Int} (hp : ∀ y ∈ p, 0 ≤ y ∧ y < 256) (hq : ∀ y ∈ q, 0 ≤ y ∧ y < 256) (h : (strOfNums p).toList = (strOfNums q).toList) : p = q := by
  rw [Lib.strOfNums_toList, Lib.strOfNums_toList] at h
  unfold Lib.bytesOf at h
  have hl : p.length = q.length := by have := congrArg List.length h; simpa using this
  refine List.ext_getElem hl fun i h1 h2 => ?_
  have e : (p.map fun n => UInt8.ofNat n.toNat)[i]'(by simpa using h1) = (q.map fun n => UInt8.ofNat n.toNat)[i]'(by simpa using h2) := by simp only [h]
  simp only [List.getElem_map] at e
  have b1 := hp _ (List.getElem_mem h1)
  have b2 := hq _ (List.getElem_mem h2)
  have e2 := congrArg UInt8.toNat e
  simp only [UInt8.toNat_ofNat'] at e2
  omega
theorem bytes_app (p q : List Int) : (strOfNums (p ++ q)).toList = (strOfNums p ++ strOfNums q).toList := by
  rw [Lib.toList_data, Lib.toList_data]
  simp [strOfNums]
theorem all_take {l : List S31} (h : l.all right31 = true) (i : Nat) : (l.take i).all right31 = true := List.all_eq_true.2 fun x hx => List.all_eq_true.1 h x (List.mem_of_mem_take hx)
theorem flat_take_succ (l : List S31) (i : Nat) (h : i < l.length) : ((l.take (i + 1)).flatMap wide31).length = ((l.take i).flatMap wide31).length + (wide31 l[i]).length := by
  rw [List.take_succ_eq_append_getElem h, List.flatMap_append, List.length_append]; simp
/-- How many operations lie whole in some first bytes. -/
theorem cut_at (l : List S31) : ∀ c, c ≤ (l.flatMap wide31).length → ∃ m, m ≤ l.length ∧ ((l.take m).flatMap wide31).length ≤ c ∧ (∀ h : m < l.length, c < ((l.take m).flatMap wide31).length + (wide31 l[m]).length) := by
  induction l with
  | nil => intro c hc; exact ⟨0, by simp, by simp, fun h => by simp at h⟩
  | cons o l ih =>
    intro c hc
    rw [List.flatMap_cons, List.length_append] at hc
    by_cases hlt : c < (wide31 o).length
    · exact ⟨0, by simp, by simp, fun h => by simpa using hlt⟩
    · obtain ⟨m, hm, h1, h2⟩ := ih (c - (wide31 o).length) (by omega)
      refine ⟨m + 1, by simpa using hm, ?_, fun h => ?_⟩
      · rw [List.take_succ_cons, List.flatMap_cons, List.length_append]; omega
      · have := h2 (by simpa using h)
        rw [List.take_succ_cons, List.flatMap_cons, List.length_append]
        simp only [List.getElem_cons_succ]
        omega
theorem get_cut (l : List S31) (hr : l.all right31 = true) (hf : ∀ o ∈ l, Open.Fit o) (hl : l.length ≤ 10000000) (c m : Nat) (hc : c ≤ (l.flatMap wide31).length) (hm : m ≤ l.length) (h1 : ((l.take m).flatMap wide31).length ≤ c) (h2 : ∀ h : m < l.length, c < ((l.take m).flatMap wide31).length + (wide31 l[m]).length) {K : Nat} (hK : l.length + 2 ≤ K) :
    script_Get.f K ((l.flatMap wide31).take c) = some (l.take m, (((l.take m).flatMap wide31).length : Int), if ((l.take m).flatMap wide31).length = c then 0 else 12) := by
  have hlen := flat_len l
  have hsp : l.flatMap wide31 = (l.take m).flatMap wide31 ++ (l.drop m).flatMap wide31 := by rw [← List.flatMap_append, List.take_append_drop]
  have hb : ∀ y ∈ (l.flatMap wide31).take c, 0 ≤ y ∧ y < 256 := fun y hy => flat_byte hr y (List.mem_of_mem_take hy)
  unfold script_Get.f
  rw [if_pos ⟨hb, by rw [List.length_take]; omega⟩]
  have htl : ((l.flatMap wide31).take c).length = c := by rw [List.length_take]; omega
  rw [htl]
  have hml : (l.take m).length = m := by rw [List.length_take]; omega
  obtain ⟨j, rfl⟩ : ∃ j, K = (j + 1) + (l.take m).length := ⟨K - 1 - m, by omega⟩
  have htk : (l.flatMap wide31).take c = (l.take m).flatMap wide31 ++ ((l.drop m).flatMap wide31).take (c - ((l.take m).flatMap wide31).length) := by
    rw [hsp, List.take_append, List.take_of_length_le h1]
  rw [htk, getL_all c _ (l.take m) (j + 1) [] (all_take hr m) (fun o ho => hf o (List.mem_of_mem_take ho)), List.nil_append]
  by_cases he : ((l.take m).flatMap wide31).length = c
  · rw [if_pos he, he, Nat.sub_self, List.take_zero]; rfl
  · rw [if_neg he]
    have hmlt : m < l.length := by
      rcases Nat.lt_or_ge m l.length with h | h
      · exact h
      · rw [List.take_of_length_le h] at h1 he; omega
    have hd : l.drop m = l[m] :: l.drop (m + 1) := List.drop_eq_getElem_cons hmlt
    have := h2 hmlt
    have hri : right31 l[m] = true := List.all_eq_true.1 hr _ (List.getElem_mem hmlt)
    rw [hd, List.flatMap_cons, List.take_append_of_le_length (by omega), getL_cut c j _ l[m] _ hri (by omega) (by omega)]
    congr 2
    congr 1
    omega
end Go.Proofs.Ytmifcdmkobammaa.Q
