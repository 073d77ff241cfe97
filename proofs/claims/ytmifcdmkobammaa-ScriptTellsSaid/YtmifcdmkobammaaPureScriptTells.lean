/- ScriptTells, the plain law, with what the document's functions compute. -/
import Derived.Test.YtmifcdmkobammaaComT
import Derived.Test.YtmifcdmkobammaaRefAll
import Derived.Test.YtmifcdmkobammaaY3
import Derived.Test.YtmifcdmkobammaaY4
import Derived.Test.YtmifcdmkobammaaY6a
import Derived.Test.YtmifcdmkobammaaY7
import Derived.Test.YtmifcdmkobammaaOScriptTells
/- Layer 12: the document's Right and eight, in plain Lean. -/
namespace Go.Proofs.Ytmifcdmkobammaa.Q
open Go.RowKit Go.Proofs.YtmifcdmkobammaaW.PrintWords Go.Proofs.YtmifcdmkobammaaW.PrintLast Go.Proofs.YtmifcdmkobammaaW.PrintMore Go.Proofs.Ytmifcdmkobammaa.ScriptWalk Go.Proofs.Ytmifcdmkobammaa.Parts
theorem own_iff (k x : Int) (c : UInt8) : (own k c x = x) ↔ (x = 0 ∨ (letters k).contains c = true) := by
  unfold own
  by_cases h : (letters k).contains c = true
  · rw [if_pos h]; exact ⟨fun _ => .inr h, fun _ => rfl⟩
  · rw [if_neg h]; exact ⟨fun e => .inl e.symm, fun e => e.elim Eq.symm (fun e => absurd e h)⟩
theorem has_iff (k x c : Int) (c' : UInt8) (hc : c.toNat.toUInt8 = c') : ((x == 0 || hasC k c) = true) ↔ (own k c' x = x) := by
  rw [own_iff, Bool.or_eq_true, beq_iff_eq]
  unfold hasC
  rw [hc]
theorem pt_empty {k : Int} : (!(pt k).toList.isEmpty) = (decide (0 ≤ k) && decide (k ≤ 8)) := by
  rcases kinds k with rfl | rfl | rfl | rfl | rfl | rfl | rfl | rfl | rfl | h
  iterate 9 · decide +kernel
  · have hp : (pt k).toList = [] := by unfold pt; rw [letters_no h]; decide +kernel
    rw [hp, Bool.eq_iff_iff]
    simp only [List.isEmpty_nil, Bool.not_true, Bool.and_eq_true, decide_eq_true_eq]
    constructor
    · intro h; cases h
    · omega
theorem right_eq (k : Int) (u : Bool) (a v g i n : Int) : refRightB k u a v g i n = rightB k u a v g i n := by
  have h1 := has_iff k a 65 65 rfl
  have h2 := has_iff k v 86 86 rfl
  have h3 := has_iff k g 71 71 rfl
  have h4 := has_iff k i 73 73 rfl
  have h5 := has_iff k n 78 78 rfl
  have h6 : hasC k 117 = hasU k := rfl
  unfold refRightB rightB
  rw [pt_empty, h6, Bool.eq_iff_iff]
  simp only [Bool.and_eq_true, h1, h2, h3, h4, h5, decide_eq_true_eq]
  constructor
  · rintro ⟨⟨a1, a2, a3, a4, a5, a6, a7, a8⟩, b1, b2, b3, b4, b5, b6⟩
    exact ⟨⟨a1, a2⟩, b1, ⟨b2, b3, b4, b5, b6⟩, a3, by omega, a5, by omega, a7, by omega⟩
  · rintro ⟨⟨a1, a2⟩, b1, ⟨b2, b3, b4, b5, b6⟩, a3, a4, a5, a6, a7, a8⟩
    exact ⟨⟨a1, a2, a3, by omega, a5, by omega, a7, by omega⟩, b1, b2, b3, b4, b5, b6⟩
theorem ref_right (o : S31) : silhouetteref12_Right.f o.f0 o.f1 o.f2 o.f3 o.f4 o.f5 o.f6 = some (right31 o) := congrArg some (right_eq _ _ _ _ _ _ _)
theorem eight_loop (n : Int) (l : List Int) (hl : l.length ≤ 1000000000000) : ∀ (j : Nat), j ≤ 8 → silhouetteref12_eight.l0 (9 - j) (l ++ top n j) n (7 - (j : Int)) = some (l ++ top n 8) := by
  intro j hj
  obtain ⟨m, hm⟩ : ∃ m, j + m = 8 := ⟨8 - j, by omega⟩
  induction m generalizing j with
  | zero =>
    obtain rfl : j = 8 := by omega
    rw [show 9 - 8 = 0 + 1 from rfl, silhouetteref12_eight.l0, if_neg (by omega)]
  | succ m ih =>
    have e : 9 - j = (9 - (j + 1)) + 1 := by omega
    have hs : wrap64 (8 * (7 - (j : Int))) = ((8 * (7 - j) : Nat) : Int) := by rw [w64' (by omega) (by omega)]; omega
    rw [e, silhouetteref12_eight.l0, if_pos (by omega), hs, if_pos (by omega), if_pos (by rw [List.length_append, top_len]; omega), w64' (by omega) (by omega)]
    have hsh : shr .u64 n ((8 * (7 - j) : Nat) : Int) = n / 2 ^ (8 * (7 - j)) := by
      unfold shr
      rw [Int.toNat_natCast, Nat.min_eq_left (by simp only [IntKind.bits]; omega)]
    rw [hsh, List.append_assoc, ← top_snoc, show (7 : Int) - (j : Int) - 1 = 7 - ((j + 1 : Nat) : Int) by omega]
    exact ih (j + 1) (by omega) (by omega)
theorem eight_at (n : Int) (l : List Int) (hl : l.length ≤ 1000000000000) {K : Nat} (hK : 9 ≤ K) : silhouetteref12_eight.f K l n = some (l ++ top n 8) := by
  refine lift (f := fun k => silhouetteref12_eight.f k l n) (fun k => silhouetteref12_eight.mono l n k) hK ?_
  have := eight_loop n l hl 0 (by omega)
  simpa [silhouetteref12_eight.f, top] using this
theorem has_at (k c : Int) (hc : c = 117 ∨ c = 65 ∨ c = 86 ∨ c = 71 ∨ c = 73 ∨ c = 78) {K : Nat} (hK : 12 ≤ K) : silhouetteref12_has.f K k c = some (hasC k c) :=
  lift (f := fun m => silhouetteref12_has.f m k c) (fun m => silhouetteref12_has.mono k c m) hK (has_law k c hc)
end Go.Proofs.Ytmifcdmkobammaa.Q
/- Layer 12: the document's bytes of an operation, in plain Lean. -/
namespace Go.Proofs.Ytmifcdmkobammaa.Q
open Go.RowKit Go.Proofs.YtmifcdmkobammaaW.PrintWords Go.Proofs.YtmifcdmkobammaaW.PrintLast Go.Proofs.YtmifcdmkobammaaW.PrintMore Go.Proofs.Ytmifcdmkobammaa.ScriptWalk Go.Proofs.Ytmifcdmkobammaa.Parts
def piece (k c : Int) (l : List Int) : List Int := if hasC k c = true then l else []
theorem piece_yes {k c : Int} {l : List Int} (h : hasC k c = true) : piece k c l = l := if_pos h
theorem piece_no {k c : Int} {l : List Int} (h : ¬ hasC k c = true) : piece k c l = [] := if_neg h
section
variable (k : Int) (u : Bool) (a v g i n : Int) (m : Nat) (hm : 12 ≤ m)
include hm
theorem one_j3 (x3 : List Int) (hx : x3.length ≤ 1000) : silhouetteref12_one.j3 (m + 1) x3 k u a v g i n = some (x3 ++ (piece k 86 (top v 8) ++ piece k 78 [n % 256])) := by
  rw [silhouetteref12_one.j3, has_at k 86 (by simp) hm, Option.bind_some]
  by_cases h : hasC k 86 = true
  · rw [if_pos h, eight_at v x3 (by omega) (by omega), Option.bind_some, has_at k 78 (by simp) hm, Option.bind_some, piece_yes h]
    by_cases h2 : hasC k 78 = true
    · rw [if_pos h2, if_pos (by rw [List.length_append, top_len]; omega), piece_yes h2, List.append_assoc]
    · rw [if_neg h2, piece_no h2, List.append_nil]
  · rw [if_neg h, has_at k 78 (by simp) hm, Option.bind_some, piece_no h, List.nil_append]
    by_cases h2 : hasC k 78 = true
    · rw [if_pos h2, if_pos (by omega), piece_yes h2]
    · rw [if_neg h2, piece_no h2, List.append_nil]
theorem one_j2 (x3 : List Int) (hx : x3.length ≤ 999) : silhouetteref12_one.j2 (m + 2) x3 k u a v g i n = some (x3 ++ (piece k 73 [i % 256] ++ (piece k 86 (top v 8) ++ piece k 78 [n % 256]))) := by
  rw [silhouetteref12_one.j2, has_at k 73 (by simp) (by omega), Option.bind_some]
  by_cases h : hasC k 73 = true
  · rw [if_pos h, if_pos (by omega), one_j3 k u a v g i n m hm _ (by rw [List.length_append, List.length_singleton]; omega), piece_yes h, List.append_assoc]
  · rw [if_neg h, one_j3 k u a v g i n m hm _ (by omega), piece_no h, List.nil_append]
theorem one_j1 (x3 : List Int) (hx : x3.length ≤ 998) : silhouetteref12_one.j1 (m + 3) x3 k u a v g i n = some (x3 ++ (piece k 71 [g % 256] ++ (piece k 73 [i % 256] ++ (piece k 86 (top v 8) ++ piece k 78 [n % 256])))) := by
  rw [silhouetteref12_one.j1, has_at k 71 (by simp) (by omega), Option.bind_some]
  by_cases h : hasC k 71 = true
  · rw [if_pos h, if_pos (by omega), one_j2 k u a v g i n m hm _ (by rw [List.length_append, List.length_singleton]; omega), piece_yes h, List.append_assoc]
  · rw [if_neg h, one_j2 k u a v g i n m hm _ (by omega), piece_no h, List.nil_append]
theorem one_j0 (x3 : List Int) (hx : x3.length ≤ 900) : silhouetteref12_one.j0 (m + 4) x3 k u a v g i n = some (x3 ++ (piece k 65 (top a 8) ++ (piece k 71 [g % 256] ++ (piece k 73 [i % 256] ++ (piece k 86 (top v 8) ++ piece k 78 [n % 256]))))) := by
  rw [silhouetteref12_one.j0, has_at k 65 (by simp) (by omega), Option.bind_some]
  by_cases h : hasC k 65 = true
  · rw [if_pos h, eight_at a x3 (by omega) (by omega), Option.bind_some, one_j1 k u a v g i n m hm _ (by rw [List.length_append, top_len]; omega), piece_yes h, List.append_assoc]
  · rw [if_neg h, one_j1 k u a v g i n m hm _ (by omega), piece_no h, List.nil_append]
end
theorem pieces (k a v g i n : Int) : piece k 65 (top a 8) ++ (piece k 71 [g % 256] ++ (piece k 73 [i % 256] ++ (piece k 86 (top v 8) ++ piece k 78 [n % 256]))) = wroteAll a v g i n (letters k) := by
  rcases kinds k with rfl | rfl | rfl | rfl | rfl | rfl | rfl | rfl | rfl | h
  iterate 9 · rfl
  · have e : ∀ c l, piece k c l = [] := fun c l => piece_no (by unfold hasC; rw [letters_no h]; simp)
    rw [e, e, e, e, e, letters_no h]; rfl
theorem one_at (k : Int) (u : Bool) (a v g i n : Int) (h0 : 0 ≤ k) (h8 : k ≤ 8) {K : Nat} (hK : 16 ≤ K) : silhouetteref12_one.f K k u a v g i n = some (opBytes k u a v g i n) := by
  obtain ⟨m, rfl⟩ : ∃ m, K = m + 4 := ⟨K - 4, by omega⟩
  have hb : k % 256 = k := by omega
  unfold silhouetteref12_one.f
  rw [Option.bind_some, hb]
  cases u with
  | true =>
    have e : ([k] : List Int).set (0 : Int).toNat (((rd [k] 0) + 128) % 256) = [k + 128] := by
      show [(k + 128) % 256] = [k + 128]
      rw [Int.emod_eq_of_lt (by omega) (by omega)]
    rw [if_pos rfl, if_pos (by simp), e, one_j0 k true a v g i n m (by omega) _ (by simp), pieces]
    rfl
  | false =>
    rw [if_neg (by simp), one_j0 k false a v g i n m (by omega) _ (by simp), pieces]
    rfl
end Go.Proofs.Ytmifcdmkobammaa.Q
/- Layer 12: what the document's Get reads, in plain Lean. -/
namespace Go.Proofs.Ytmifcdmkobammaa.Q
open Go.RowKit Go.Proofs.YtmifcdmkobammaaW.PrintWords Go.Proofs.YtmifcdmkobammaaW.PrintLast Go.Proofs.YtmifcdmkobammaaW.PrintMore Go.Proofs.Ytmifcdmkobammaa.ScriptWalk Go.Proofs.Ytmifcdmkobammaa.Parts
set_option linter.unusedSectionVars false
theorem rd_nat (l : List Int) (i : Nat) (h : i < l.length) : rd l (i : Int) = l[i] := by
  unfold rd; rw [Int.toNat_natCast, List.getD_eq_getElem?_getD, List.getElem?_eq_getElem h]; rfl
theorem number_loop (ys : List Int) (h8 : ys.length = 8) : ∀ (m j : Nat), j + m = 8 → silhouetteref12_number.l0 (m + 1) ys (many 0 (ys.take j)) (j : Int) = some (many 0 ys) := by
  intro m
  induction m with
  | zero =>
    intro j hj
    obtain rfl : j = 8 := by omega
    rw [silhouetteref12_number.l0, if_neg (by omega), List.take_of_length_le (by omega)]
  | succ m ih =>
    intro j hj
    have hjl : j < ys.length := by omega
    rw [silhouetteref12_number.l0, if_pos (by omega), if_pos (by omega), if_pos (by omega), rd_nat ys j hjl, w64' (by omega) (by omega), wrap_u64, wrap_u64, wrap_u64]
    have e : (256 * many 0 (ys.take j) % 18446744073709551616 + ys[j] % 18446744073709551616) % 18446744073709551616 = many 0 (ys.take (j + 1)) := by
      rw [List.take_succ_eq_append_getElem hjl, many_snoc]; omega
    rw [e, show ((j : Int) + 1) = ((j + 1 : Nat) : Int) by omega]
    exact ih (j + 1) (by omega)
theorem number_at (ys : List Int) (h8 : ys.length = 8) {K : Nat} (hK : 9 ≤ K) : silhouetteref12_number.f K ys = some (many 0 ys) := by
  refine lift (f := fun k => silhouetteref12_number.f k ys) (fun k => silhouetteref12_number.mono ys k) hK ?_
  exact number_loop ys h8 8 0 (by omega)
theorem cut_eight (x0 : List Int) (p : Nat) (hl : x0.length ≤ 1000000000) (hp : p + 8 ≤ x0.length) : wrap64 ((p : Int) + 8) = ((p + 8 : Nat) : Int) ∧ (x0.take ((p + 8 : Nat) : Int).toNat).drop ((p : Nat) : Int).toNat = (x0.drop p).take 8 ∧ ((x0.drop p).take 8).length = 8 := by
  refine ⟨by rw [w64' (by omega) (by omega)]; omega, ?_, by rw [List.length_take, List.length_drop]; omega⟩
  rw [Int.toNat_natCast, Int.toNat_natCast, List.drop_take]
  congr 1; omega
section
variable (x0 : List Int) (out : List S31) (at_ size : Int) (p : Nat) (k : Int) (u : Bool) (a v g i n : Int) (m : Nat) (hm : 16 ≤ m) (hl : x0.length ≤ 1000000000) (hb : ∀ y ∈ x0, 0 ≤ y ∧ y < 256)
def fin (m : Nat) (x0 : List Int) (out : List S31) (at_ size : Int) (o : S31) : Option (List S31 × Int × Int) := if right31 o = true then silhouetteref12_Get.l0 m x0 (out ++ [o]) (wrap64 (at_ + size)) else some (out, at_, 12)
include hm
theorem j1_no (h : hasC k 71 = false) : silhouetteref12_Get.j1 (m + 1) x0 out at_ size (p : Int) k u a v g i n = silhouetteref12_Get.j2 m x0 out at_ size (p : Int) k u a v g i n := by
  rw [silhouetteref12_Get.j1, has_at k 71 (by simp) (by omega), Option.bind_some, h, if_neg (by decide)]
theorem j2_no (h : hasC k 73 = false) : silhouetteref12_Get.j2 (m + 1) x0 out at_ size (p : Int) k u a v g i n = silhouetteref12_Get.j3 m x0 out at_ size (p : Int) k u a v g i n := by
  rw [silhouetteref12_Get.j2, has_at k 73 (by simp) (by omega), Option.bind_some, h, if_neg (by decide)]
theorem j3_no (h : hasC k 86 = false) : silhouetteref12_Get.j3 (m + 1) x0 out at_ size (p : Int) k u a v g i n = silhouetteref12_Get.j4 m x0 out at_ size (p : Int) k u a v g i n := by
  rw [silhouetteref12_Get.j3, has_at k 86 (by simp) (by omega), Option.bind_some, h, if_neg (by decide)]
theorem j4_no (h : hasC k 78 = false) (ho : out.length ≤ 1000000000) : silhouetteref12_Get.j4 (m + 1) x0 out at_ size (p : Int) k u a v g i n = fin m x0 out at_ size ⟨k, u, a, v, g, i, n⟩ := by
  rw [silhouetteref12_Get.j4, has_at k 78 (by simp) (by omega), Option.bind_some, h, if_neg (by decide), ref_right ⟨k, u, a, v, g, i, n⟩, Option.bind_some]
  unfold fin
  rw [if_pos (show out.length < 2513169434916 by omega)]
include hl hb
theorem byte_at (hp : p < x0.length) : wrap64 (rd x0 (p : Int)) = (x0.drop p).headD 0 := by
  have h := hb x0[p] (List.getElem_mem hp)
  rw [rd_nat x0 p hp, w64' (by omega) (by omega), List.drop_eq_getElem_cons hp]; rfl
theorem j1_yes (h : hasC k 71 = true) (hp : p < x0.length) : silhouetteref12_Get.j1 (m + 1) x0 out at_ size (p : Int) k u a v g i n = silhouetteref12_Get.j2 m x0 out at_ size ((p + 1 : Nat) : Int) k u a v ((x0.drop p).headD 0) i n := by
  rw [silhouetteref12_Get.j1, has_at k 71 (by simp) (by omega), Option.bind_some, h, if_pos rfl, if_pos (by omega), if_pos (by omega), byte_at x0 p m hm hl hb hp, w64' (by omega) (by omega)]
  rfl
theorem j2_yes (h : hasC k 73 = true) (hp : p < x0.length) : silhouetteref12_Get.j2 (m + 1) x0 out at_ size (p : Int) k u a v g i n = silhouetteref12_Get.j3 m x0 out at_ size ((p + 1 : Nat) : Int) k u a v g ((x0.drop p).headD 0) n := by
  rw [silhouetteref12_Get.j2, has_at k 73 (by simp) (by omega), Option.bind_some, h, if_pos rfl, if_pos (by omega), if_pos (by omega), byte_at x0 p m hm hl hb hp, w64' (by omega) (by omega)]
  rfl
theorem j3_yes (h : hasC k 86 = true) (hp : p + 8 ≤ x0.length) : silhouetteref12_Get.j3 (m + 1) x0 out at_ size (p : Int) k u a v g i n = silhouetteref12_Get.j4 m x0 out at_ size (p : Int) k u a (many 0 ((x0.drop p).take 8)) g i n := by
  obtain ⟨e1, e2, e3⟩ := cut_eight x0 p hl hp
  rw [silhouetteref12_Get.j3, has_at k 86 (by simp) (by omega), Option.bind_some, h, if_pos rfl, e1, if_pos (by omega), if_pos (by omega), if_pos (by omega), e2, number_at _ e3 (by omega), Option.bind_some]
theorem j4_yes (h : hasC k 78 = true) (hp : p < x0.length) (ho : out.length ≤ 1000000000) : silhouetteref12_Get.j4 (m + 1) x0 out at_ size (p : Int) k u a v g i n = fin m x0 out at_ size ⟨k, u, a, v, g, i, (x0.drop p).headD 0⟩ := by
  rw [silhouetteref12_Get.j4, has_at k 78 (by simp) (by omega), Option.bind_some, h, if_pos rfl, if_pos (by omega), if_pos (by omega), byte_at x0 p m hm hl hb hp, ref_right ⟨k, u, a, v, g, i, (x0.drop p).headD 0⟩, Option.bind_some]
  unfold fin
  rw [if_pos (show out.length < 2513169434916 by omega)]
end
theorem read_u (L : List UInt8) (f : Five) (ys : List Int) : readAll (117 :: L) f ys = readAll L f ys := by
  rw [readAll, if_neg (by show ¬ ys.length < 0; omega)]; rfl
theorem read_A (L : List UInt8) (f : Five) (ys : List Int) (h : 8 ≤ ys.length) : readAll (65 :: L) f ys = readAll L { f with a := many f.a (ys.take 8) } (ys.drop 8) := by
  rw [readAll, if_neg (by show ¬ ys.length < 8; omega)]; rfl
theorem read_V (L : List UInt8) (f : Five) (ys : List Int) (h : 8 ≤ ys.length) : readAll (86 :: L) f ys = readAll L { f with v := many f.v (ys.take 8) } (ys.drop 8) := by
  rw [readAll, if_neg (by show ¬ ys.length < 8; omega)]; rfl
theorem read_G (L : List UInt8) (f : Five) (ys : List Int) (h : 1 ≤ ys.length) : readAll (71 :: L) f ys = readAll L { f with g := ys.headD 0 } (ys.drop 1) := by
  rw [readAll, if_neg (by show ¬ ys.length < 1; omega)]; rfl
theorem read_I (L : List UInt8) (f : Five) (ys : List Int) (h : 1 ≤ ys.length) : readAll (73 :: L) f ys = readAll L { f with i := ys.headD 0 } (ys.drop 1) := by
  rw [readAll, if_neg (by show ¬ ys.length < 1; omega)]; rfl
theorem read_N (L : List UInt8) (f : Five) (ys : List Int) (h : 1 ≤ ys.length) : readAll (78 :: L) f ys = readAll L { f with n := ys.headD 0 } (ys.drop 1) := by
  rw [readAll, if_neg (by show ¬ ys.length < 1; omega)]; rfl
theorem read_done (f : Five) (ys : List Int) : readAll [] f ys = some (f, ys) := rfl
end Go.Proofs.Ytmifcdmkobammaa.Q
/- Layer 12: an operation that the document's Get reads, in plain Lean. -/
namespace Go.Proofs.Ytmifcdmkobammaa.Q
open Go.RowKit Go.Proofs.YtmifcdmkobammaaW.PrintWords Go.Proofs.YtmifcdmkobammaaW.PrintLast Go.Proofs.YtmifcdmkobammaaW.PrintMore Go.Proofs.Ytmifcdmkobammaa.ScriptWalk Go.Proofs.Ytmifcdmkobammaa.Parts
set_option linter.unusedSectionVars false
section
variable (x0 : List Int) (out : List S31) (i : Nat) (k : Int) (u : Bool) (xs : List Int) (m : Nat)
def told (m : Nat) (x0 : List Int) (out : List S31) (i : Nat) (k : Int) (u : Bool) : Option (Five × List Int) → Option (List S31 × Int × Int)
  | none => some (out, (i : Int), 12)
  | some (f, ys) => if right31 ⟨k, u, f.a, f.v, f.g, f.i, f.n⟩ = true then silhouetteref12_Get.l0 m x0 (out ++ [⟨k, u, f.a, f.v, f.g, f.i, f.n⟩]) ((x0.length : Int) - (ys.length : Int)) else some (out, (i : Int), 12)
theorem fin_told (hl : x0.length ≤ 1000000000) (hlen : x0.length = i + 1 + xs.length) (sz : Nat) (f : Five) (ys : List Int) (h : ys.length + sz = 1 + xs.length) : fin m x0 out (i : Int) (sz : Int) ⟨k, u, f.a, f.v, f.g, f.i, f.n⟩ = told m x0 out i k u (some (f, ys)) := by
  unfold fin told
  rw [w64' (by omega) (by omega), show (i : Int) + (sz : Int) = (x0.length : Int) - (ys.length : Int) by omega]
variable (hl : x0.length ≤ 1000000000) (hlen : x0.length = i + 1 + xs.length) (hxs : x0.drop (i + 1) = xs) (hb : ∀ y ∈ x0, 0 ≤ y ∧ y < 256) (ho : out.length ≤ 1000000000) (hm : 16 ≤ m) (hs : widths (letters k) ≤ xs.length)
include hl hlen hxs hb ho hm hs
theorem parts_A (hk : k = 0 ∨ k = 1 ∨ k = 2 ∨ k = 3 ∨ k = 7) : silhouetteref12_Get.j1 (m + 3 + 1) x0 out (i : Int) ((1 + widths (letters k) : Nat) : Int) ((i + 1 + 8 : Nat) : Int) k u (many 0 (xs.take 8)) 0 0 0 0 = told m x0 out i k u (readAll (letters k) five0 xs) := by
  have d9 : x0.drop (i + 1 + 8) = xs.drop 8 := by rw [← List.drop_drop, hxs]
  have hd8 : (xs.drop 8).length = xs.length - 8 := List.length_drop
  rcases hk with rfl | rfl | rfl | rfl | rfl
  · replace hs : 8 ≤ xs.length := hs
    rw [j1_no (m := m + 2 + 1) (hm := by omega) (h := by decide), j2_no (m := m + 1 + 1) (hm := by omega) (h := by decide), j3_no (m := m + 1) (hm := by omega) (h := by decide), j4_no (m := m) (hm := hm) (h := by decide) (ho := ho)]
    rw [show letters 0 = [117, 65] from rfl, read_u, read_A _ _ _ hs, read_done]
    exact fin_told x0 out i 0 u xs m hl hlen (1 + 8) ⟨many 0 (xs.take 8), 0, 0, 0, 0⟩ (xs.drop 8) (by show (xs.drop 8).length + (1 + 8) = _; omega)
  · replace hs : 16 ≤ xs.length := hs
    rw [j1_no (m := m + 2 + 1) (hm := by omega) (h := by decide), j2_no (m := m + 1 + 1) (hm := by omega) (h := by decide), j3_yes (m := m + 1) (hm := by omega) (hl := hl) (hb := hb) (h := by decide) (hp := by omega), j4_no (m := m) (hm := hm) (h := by decide) (ho := ho), d9]
    rw [show letters 1 = [117, 65, 86] from rfl, read_u, read_A _ _ _ (by omega), read_V _ _ _ (by omega), read_done]
    exact fin_told x0 out i 1 u xs m hl hlen (1 + 16) ⟨many 0 (xs.take 8), many 0 ((xs.drop 8).take 8), 0, 0, 0⟩ ((xs.drop 8).drop 8) (by show ((xs.drop 8).drop 8).length + (1 + 16) = _; rw [List.length_drop]; omega)
  · replace hs : 8 ≤ xs.length := hs
    rw [j1_no (m := m + 2 + 1) (hm := by omega) (h := by decide), j2_no (m := m + 1 + 1) (hm := by omega) (h := by decide), j3_no (m := m + 1) (hm := by omega) (h := by decide), j4_no (m := m) (hm := hm) (h := by decide) (ho := ho)]
    rw [show letters 2 = [117, 65] from rfl, read_u, read_A _ _ _ hs, read_done]
    exact fin_told x0 out i 2 u xs m hl hlen (1 + 8) ⟨many 0 (xs.take 8), 0, 0, 0, 0⟩ (xs.drop 8) (by show (xs.drop 8).length + (1 + 8) = _; omega)
  · replace hs : 8 ≤ xs.length := hs
    rw [j1_no (m := m + 2 + 1) (hm := by omega) (h := by decide), j2_no (m := m + 1 + 1) (hm := by omega) (h := by decide), j3_no (m := m + 1) (hm := by omega) (h := by decide), j4_no (m := m) (hm := hm) (h := by decide) (ho := ho)]
    rw [show letters 3 = [65] from rfl, read_A _ _ _ hs, read_done]
    exact fin_told x0 out i 3 u xs m hl hlen (1 + 8) ⟨many 0 (xs.take 8), 0, 0, 0, 0⟩ (xs.drop 8) (by show (xs.drop 8).length + (1 + 8) = _; omega)
  · replace hs : 8 ≤ xs.length := hs
    rw [j1_no (m := m + 2 + 1) (hm := by omega) (h := by decide), j2_no (m := m + 1 + 1) (hm := by omega) (h := by decide), j3_no (m := m + 1) (hm := by omega) (h := by decide), j4_no (m := m) (hm := hm) (h := by decide) (ho := ho)]
    rw [show letters 7 = [65] from rfl, read_A _ _ _ hs, read_done]
    exact fin_told x0 out i 7 u xs m hl hlen (1 + 8) ⟨many 0 (xs.take 8), 0, 0, 0, 0⟩ (xs.drop 8) (by show (xs.drop 8).length + (1 + 8) = _; omega)
theorem parts_noA (hk : k = 4 ∨ k = 5 ∨ k = 6 ∨ k = 8) : silhouetteref12_Get.j1 (m + 3 + 1) x0 out (i : Int) ((1 + widths (letters k) : Nat) : Int) ((i + 1 : Nat) : Int) k u 0 0 0 0 0 = told m x0 out i k u (readAll (letters k) five0 xs) := by
  have d2 : x0.drop (i + 1 + 1) = xs.drop 1 := by rw [← List.drop_drop, hxs]
  have d3 : x0.drop (i + 1 + 1 + 1) = (xs.drop 1).drop 1 := by rw [← List.drop_drop, d2]
  have hd1 : (xs.drop 1).length = xs.length - 1 := List.length_drop
  have hd2 : ((xs.drop 1).drop 1).length = xs.length - 1 - 1 := by rw [List.length_drop, hd1]
  rcases hk with rfl | rfl | rfl | rfl
  · replace hs : 1 ≤ xs.length := hs
    rw [j1_yes (m := m + 2 + 1) (hm := by omega) (hl := hl) (hb := hb) (h := by decide) (hp := by omega), j2_no (m := m + 1 + 1) (hm := by omega) (h := by decide), j3_no (m := m + 1) (hm := by omega) (h := by decide), j4_no (m := m) (hm := hm) (h := by decide) (ho := ho), hxs]
    rw [show letters 4 = [71] from rfl, read_G _ _ _ hs, read_done]
    exact fin_told x0 out i 4 u xs m hl hlen (1 + 1) ⟨0, 0, xs.headD 0, 0, 0⟩ (xs.drop 1) (by show (xs.drop 1).length + (1 + 1) = _; omega)
  · replace hs : 10 ≤ xs.length := hs
    rw [j1_yes (m := m + 2 + 1) (hm := by omega) (hl := hl) (hb := hb) (h := by decide) (hp := by omega), j2_yes (m := m + 1 + 1) (hm := by omega) (hl := hl) (hb := hb) (h := by decide) (hp := by omega), j3_yes (m := m + 1) (hm := by omega) (hl := hl) (hb := hb) (h := by decide) (hp := by omega), j4_no (m := m) (hm := hm) (h := by decide) (ho := ho), hxs, d2, d3]
    rw [show letters 5 = [71, 73, 86] from rfl, read_G _ _ _ (by omega), read_I _ _ _ (by omega), read_V _ _ _ (by omega), read_done]
    exact fin_told x0 out i 5 u xs m hl hlen (1 + 10) ⟨0, many 0 (((xs.drop 1).drop 1).take 8), xs.headD 0, (xs.drop 1).headD 0, 0⟩ (((xs.drop 1).drop 1).drop 8) (by show (((xs.drop 1).drop 1).drop 8).length + (1 + 10) = _; rw [List.length_drop]; omega)
  · replace hs : 1 ≤ xs.length := hs
    rw [j1_no (m := m + 2 + 1) (hm := by omega) (h := by decide), j2_no (m := m + 1 + 1) (hm := by omega) (h := by decide), j3_no (m := m + 1) (hm := by omega) (h := by decide), j4_yes (m := m) (hm := hm) (hl := hl) (hb := hb) (h := by decide) (hp := by omega) (ho := ho), hxs]
    rw [show letters 6 = [78] from rfl, read_N _ _ _ hs, read_done]
    exact fin_told x0 out i 6 u xs m hl hlen (1 + 1) ⟨0, 0, 0, 0, xs.headD 0⟩ (xs.drop 1) (by show (xs.drop 1).length + (1 + 1) = _; omega)
  · replace hs : 1 ≤ xs.length := hs
    rw [j1_no (m := m + 2 + 1) (hm := by omega) (h := by decide), j2_no (m := m + 1 + 1) (hm := by omega) (h := by decide), j3_no (m := m + 1) (hm := by omega) (h := by decide), j4_yes (m := m) (hm := hm) (hl := hl) (hb := hb) (h := by decide) (hp := by omega) (ho := ho), hxs]
    rw [show letters 8 = [78] from rfl, read_N _ _ _ hs, read_done]
    exact fin_told x0 out i 8 u xs m hl hlen (1 + 1) ⟨0, 0, 0, 0, xs.headD 0⟩ (xs.drop 1) (by show (xs.drop 1).length + (1 + 1) = _; omega)
end
/-- One operation, got. -/
theorem get_step (x0 : List Int) (out : List S31) (i : Nat) (x : Int) (xs : List Int) (hd : x0.drop i = x :: xs) (hl : x0.length ≤ 1000000000) (hb : ∀ y ∈ x0, 0 ≤ y ∧ y < 256) (ho : out.length ≤ 1000000000) (m : Nat) (hm : 16 ≤ m) :
    silhouetteref12_Get.l0 (m + 3 + 1 + 1) x0 out (i : Int) = told m x0 out i (x % 128) (decide (x ≥ 128)) (readAll (letters (x % 128)) five0 xs) := by
  have hil : i < x0.length := by
    rcases Nat.lt_or_ge i x0.length with h | h
    · exact h
    · rw [List.drop_of_length_le h] at hd; cases hd
  have hcons := List.drop_eq_getElem_cons hil
  rw [hd] at hcons
  obtain ⟨hx, hxs⟩ := List.cons.inj hcons
  have hxb : 0 ≤ x ∧ x < 256 := by rw [hx]; exact hb _ (List.getElem_mem hil)
  have hlen : x0.length = i + 1 + xs.length := by rw [hxs, List.length_drop]; omega
  have l1 : (i : Int) < (x0.length : Int) := by omega
  have l2 : 0 ≤ (i : Int) := by omega
  have hp1 : wrap64 ((i : Int) + 1) = ((i + 1 : Nat) : Int) := (w64' (by omega) (by omega)).trans (by omega)
  have hrest : wrap64 ((x0.length : Int) - (i : Int)) = ((1 + xs.length : Nat) : Int) := (w64' (by clear hp1; omega) (by clear hp1; omega)).trans (by clear hp1; omega)
  have hw : wrap64 (x % 128) = x % 128 := w64' (by clear hp1 hrest; omega) (by clear hp1 hrest; omega)
  have hmod : Int.tmod x 128 = x % 128 := Int.tmod_eq_emod_of_nonneg hxb.1
  rw [silhouetteref12_Get.l0, if_pos l1, if_pos l2, rd_nat x0 i hil, ← hx, hmod, hw, hp1, hrest]
  clear hw hmod hrest hp1
  obtain ⟨u, hu⟩ : ∃ u, decide (x ≥ 128) = u := ⟨_, rfl⟩
  obtain ⟨k, hk⟩ : ∃ k, x % 128 = k := ⟨_, rfl⟩
  have hk0 : 0 ≤ k := by omega
  rw [hu, hk]
  clear hcons hd hx hu hk hxb
  by_cases h8 : k > 8
  · rw [if_pos h8, letters_no (.inr h8), read_done]
    have hr : right31 (⟨k, u, five0.a, five0.v, five0.g, five0.i, five0.n⟩ : S31) = false := by
      cases h : right31 (⟨k, u, five0.a, five0.v, five0.g, five0.i, five0.n⟩ : S31) with
      | false => rfl
      | true => have h2 : k ≤ 8 := (right_kind h).2; omega
    unfold told
    dsimp only
    rw [hr, if_neg (by decide)]
  · have hk8 : k ≤ 8 := by omega
    rw [if_neg h8, one_at k _ 0 0 0 0 0 hk0 hk8 (by omega), Option.bind_some]
    have hol : (opBytes k u 0 0 0 0 0).length = 1 + widths (letters k) := by
      show (wroteAll 0 0 0 0 0 (letters k)).length + 1 = _
      rw [wroteAll_widths]; omega
    rw [hol]
    by_cases hs : xs.length < widths (letters k)
    · rw [if_pos (by omega), readAll_short _ _ _ hs]; rfl
    · rw [if_neg (by omega), has_at k 65 (by simp) (by omega), Option.bind_some]
      by_cases hA : k = 0 ∨ k = 1 ∨ k = 2 ∨ k = 3 ∨ k = 7
      · have hc : hasC k 65 = true := by rcases hA with rfl | rfl | rfl | rfl | rfl <;> rfl
        have hw8 : 8 ≤ widths (letters k) := by rcases hA with rfl | rfl | rfl | rfl | rfl <;> decide
        obtain ⟨e1, e2, e3⟩ := cut_eight x0 (i + 1) hl (by omega)
        rw [← hxs] at e2 e3
        rw [hc, if_pos rfl, e1, if_pos (by omega), if_pos (by omega), if_pos (by omega), e2, number_at _ e3 (by omega), Option.bind_some]
        exact parts_A x0 out i k u xs m hl hlen hxs.symm hb ho hm (by omega) hA
      · have hB : k = 4 ∨ k = 5 ∨ k = 6 ∨ k = 8 := by omega
        have hc : hasC k 65 = false := by rcases hB with rfl | rfl | rfl | rfl <;> rfl
        rw [hc, if_neg (by decide)]
        exact parts_noA x0 out i k u xs m hl hlen hxs.symm hb ho hm (by omega) hB
theorem readAll_drop : ∀ (L : List UInt8) (f : Five) (ys : List Int) (f' : Five) (zs : List Int), readAll L f ys = some (f', zs) → ∃ n, n ≤ ys.length ∧ zs = ys.drop n
  | [], f, ys, f', zs, h => by
    simp only [readAll, Option.some.injEq, Prod.mk.injEq] at h
    exact ⟨0, by omega, by rw [List.drop_zero]; exact h.2.symm⟩
  | c :: L, f, ys, f', zs, h => by
    rw [readAll] at h
    by_cases hw : ys.length < width c
    · rw [if_pos hw] at h; cases h
    · rw [if_neg hw] at h
      obtain ⟨n, hn, e⟩ := readAll_drop L _ _ _ _ h
      rw [List.length_drop] at hn
      exact ⟨width c + n, by omega, by rw [e, List.drop_drop]⟩
theorem get_loop (x0 : List Int) (hl : x0.length ≤ 1000000000) (hb : ∀ y ∈ x0, 0 ≤ y ∧ y < 256) : ∀ (k : Nat) (ys : List Int) (out : List S31) (i : Nat), x0.drop i = ys → i + ys.length = x0.length → ys.length < k → out.length + ys.length ≤ 1000000000 → silhouetteref12_Get.l0 (16 + 5 * k) x0 out (i : Int) = getL x0.length k out ys := by
  intro k
  induction k with
  | zero => intro ys out i _ _ h; omega
  | succ k ih =>
    intro ys out i hd hi hk ho
    cases ys with
    | nil =>
      rw [List.length_nil] at hi
      rw [show 16 + 5 * (k + 1) = 16 + 5 * k + 4 + 1 by omega, silhouetteref12_Get.l0, if_neg (by omega), getL]
      rw [show (i : Int) = (x0.length : Int) by omega]
    | cons x xs =>
      rw [List.length_cons] at hi hk ho
      rw [show 16 + 5 * (k + 1) = (16 + 5 * k) + 3 + 1 + 1 by omega, get_step x0 out i x xs hd hl hb (by omega) (16 + 5 * k) (by omega), getL_cons]
      have hxs : x0.drop (i + 1) = xs := by rw [← List.drop_drop, hd]; rfl
      cases hr : readAll (letters (x % 128)) five0 xs with
      | none =>
        unfold told
        dsimp only
        rw [show (i : Int) = (x0.length : Int) - ((xs.length : Int) + 1) by omega]
      | some q =>
        obtain ⟨f, zs⟩ := q
        obtain ⟨n, hn, e⟩ := readAll_drop _ _ _ _ _ hr
        have hzl : zs.length = xs.length - n := by rw [e, List.length_drop]
        unfold told
        dsimp only
        have em : (⟨x % 128, decide (x ≥ 128), f.a, f.v, f.g, f.i, f.n⟩ : S31) = mk31 x f := rfl
        rw [em]
        by_cases h : right31 (mk31 x f) = true
        · rw [if_pos h, if_pos h, show (x0.length : Int) - (zs.length : Int) = ((i + 1 + n : Nat) : Int) by omega]
          exact ih zs (out ++ [mk31 x f]) (i + 1 + n) (by rw [← List.drop_drop, hxs, e]) (by omega) (by omega) (by rw [List.length_append, List.length_singleton]; omega)
        · rw [if_neg h, if_neg h, show (i : Int) = (x0.length : Int) - ((xs.length : Int) + 1) by omega]
theorem ref_get (x0 : List Int) (hl : x0.length ≤ 100000000) (hb : ∀ y ∈ x0, 0 ≤ y ∧ y < 256) : silhouetteref12_Get.f (16 + 5 * (x0.length + 1)) x0 = getL x0.length (x0.length + 1) [] x0 :=
  get_loop x0 (by omega) hb (x0.length + 1) x0 [] 0 rfl (by omega) (by omega) (by simp; omega)
end Go.Proofs.Ytmifcdmkobammaa.Q
/- Layer 12: what the document's Put writes, in plain Lean. -/
namespace Go.Proofs.Ytmifcdmkobammaa.Q
open Go.RowKit Go.Proofs.YtmifcdmkobammaaW.PrintWords Go.Proofs.YtmifcdmkobammaaW.PrintLast Go.Proofs.YtmifcdmkobammaaW.PrintMore Go.Proofs.Ytmifcdmkobammaa.ScriptWalk Go.Proofs.Ytmifcdmkobammaa.Parts
theorem ref_put_loop (l : List S31) (hl : l.length ≤ 1000000000) : ∀ (m i : Nat) (x3 : List Int), i + m = l.length → x3.length ≤ 25 * i → silhouetteref12_Put.l0 (m + 16 + 1) l x3 (i : Int) = if (l.drop i).all right31 = true then some (x3 ++ (l.drop i).flatMap bytes31) else some [] := by
  intro m
  induction m with
  | zero =>
    intro i x3 hi _
    have hd : l.drop i = [] := List.drop_of_length_le (by omega)
    rw [hd, silhouetteref12_Put.l0, if_neg (by omega)]
    simp
  | succ m ih =>
    intro i x3 hi hx
    have hil : i < l.length := by omega
    have hd : l.drop i = l[i] :: l.drop (i + 1) := List.drop_eq_getElem_cons hil
    have hlen := bytes31_len l[i]
    rw [show m + 1 + 16 + 1 = (m + 16 + 1) + 1 by omega, silhouetteref12_Put.l0, if_pos (by omega), if_pos (by omega), rd_in l i hil, hd, ref_right l[i], Option.bind_some]
    cases h : right31 l[i] with
    | false => rw [if_neg (by decide), List.all_cons, h, Bool.false_and, if_neg (by decide)]
    | true =>
      have hk := right_kind h
      have e : opBytes l[i].f0 l[i].f1 l[i].f2 l[i].f3 l[i].f4 l[i].f5 l[i].f6 = bytes31 l[i] := rfl
      have h3 : (x3 ++ bytes31 l[i]).length ≤ 25 * (i + 1) := by rw [List.length_append]; omega
      have h4 : x3.length + (bytes31 l[i]).length < 140737488355328 := by omega
      have hw : wrap64 ((i : Int) + 1) = ((i + 1 : Nat) : Int) := (w64' (by omega) (by omega)).trans (by omega)
      rw [if_pos rfl, one_at _ _ _ _ _ _ _ hk.1 hk.2 (by clear hw; omega), e, Option.bind_some, if_pos h4, hw, ih (i + 1) _ (by clear hw; omega) h3, List.all_cons, h, Bool.true_and, List.flatMap_cons, List.append_assoc]
theorem ref_put_at (l : List S31) (hl : l.length ≤ 1000000000) {K : Nat} (hK : l.length + 17 ≤ K) : silhouetteref12_Put.f K l = some (putAll l) := by
  refine lift (f := fun k => silhouetteref12_Put.f k l) (fun k => silhouetteref12_Put.mono l k) hK ?_
  have h := ref_put_loop l hl l.length 0 [] (by omega) (by simp)
  unfold putAll
  show silhouetteref12_Put.l0 (l.length + 17) l [] 0 = _
  rw [show ((0 : Nat) : Int) = 0 from rfl] at h
  rw [show l.length + 17 = l.length + 16 + 1 from rfl, h]
  simp only [List.drop_zero, List.nil_append]
  split <;> rfl
end Go.Proofs.Ytmifcdmkobammaa.Q
/- ScriptTells, the plain law: whether operations are right, their bytes, and those that bytes tell, and where that ends, are the document's. -/
namespace Go.Proofs.Ytmifcdmkobammaa.Q
open Go.RowKit Go.Proofs.YtmifcdmkobammaaW.PrintWords Go.Proofs.YtmifcdmkobammaaW.PrintLast Go.Proofs.YtmifcdmkobammaaW.PrintMore Go.Proofs.Ytmifcdmkobammaa.ScriptWalk Go.Proofs.Ytmifcdmkobammaa.Parts
theorem both_get (b : List Int) (hb : ∀ y ∈ b, 0 ≤ y ∧ y < 256) (hl : b.length ≤ 9000) {K : Nat} (hK : 50000 ≤ K) : ∃ (l : List S31) (n e : Int), script_Get.f K b = some (l, n, e) ∧ silhouetteref12_Get.f K b = some (l, n, e) ∧ l.length ≤ 9000 := by
  obtain ⟨l, zs, e, hg, _, _, hlen, _⟩ := getL_tells b.length (b.length + 1) b [] hb (by omega)
  obtain ⟨l2, zs2, e2, hg2, _, _, _, hlen2, _⟩ := get_some b hb (by omega) (K := b.length + 1) (Nat.le_refl _)
  have hg3 : script_Get.f (b.length + 1) b = getL b.length (b.length + 1) [] b := if_pos ⟨hb, by omega⟩
  have hr := ref_get b (by omega) hb
  rw [← hg3, hg2] at hr
  refine ⟨l2, _, e2, lift (f := fun k => script_Get.f k b) (fun k => script_Get.mono b k) (by omega) hg2, lift (f := fun k => silhouetteref12_Get.f k b) (fun k => silhouetteref12_Get.mono b k) (by omega) hr, by omega⟩
theorem tells_l0 (K : Nat) (hK : 20000 ≤ K) (l r : List S31) (n e : Int) (hl : l.length ≤ 900) (hr : r.length ≤ 9000) : ∀ (m i : Nat), i + m = l.length → silhouettelaw12_ScriptTells.l0 (K + m + 1) l true r n e r n e (i : Int) = some true := by
  intro m
  induction m with
  | zero =>
    intro i hi
    rw [silhouettelaw12_ScriptTells.l0, if_neg (by omega), if_pos rfl, put_at l (by omega) (by omega), Option.bind_some, ref_put_at l (by omega) (by omega), Option.bind_some, if_pos rfl, same_refl r (by omega) (by omega), Option.bind_some, if_pos rfl, if_pos rfl]
    simp
  | succ m ih =>
    intro i hi
    have hil : i < l.length := by omega
    have hw : wrap64 ((i : Int) + 1) = ((i + 1 : Nat) : Int) := (w64' (by omega) (by omega)).trans (by omega)
    have l1 : (i : Int) < (l.length : Int) := by clear hw; omega
    have l2 : 0 ≤ (i : Int) := by clear hw; omega
    rw [silhouettelaw12_ScriptTells.l0, if_pos l1, if_pos l2, rd_in l i hil, right_at, Option.bind_some, ref_right, Option.bind_some, if_neg (by simp), hw]
    exact ih (i + 1) (by clear hw; omega)
theorem tells_pure' (K : Nat) (hK : 60000 ≤ K) (l : List S31) (b : List Int) (hb : ∀ y ∈ b, 0 ≤ y ∧ y < 256) : silhouettelaw12_ScriptTells.f (K + 1) l b = some true := by
  have e : ∀ t, (t = false → l.length ≤ 900 ∧ b.length ≤ 9000) → silhouettelaw12_ScriptTells.j0 (K + 1) l b true t = some true := by
    intro t h
    cases t with
    | true => rw [silhouettelaw12_ScriptTells.j0]; rfl
    | false =>
      obtain ⟨hl, hx⟩ := h rfl
      obtain ⟨r, n, e, h1, h2, h3⟩ := both_get b hb hx (K := K) (by omega)
      rw [silhouettelaw12_ScriptTells.j0, if_neg (by decide), h1, Option.bind_some, h2, Option.bind_some]
      obtain ⟨j, rfl⟩ : ∃ j, K = j + l.length + 1 := ⟨K - 1 - l.length, by omega⟩
      exact tells_l0 j (by omega) l r n e hl h3 l.length 0 (by omega)
  unfold silhouettelaw12_ScriptTells.f silhouettelaw12_head.f
  rw [Option.bind_some]
  by_cases hl : (l.length : Int) > 900
  · rw [if_pos hl]; exact e true (fun h => by cases h)
  · rw [if_neg hl]
    exact e _ (fun h => ⟨by omega, by have := of_decide_eq_false h; omega⟩)
theorem tells_walk {A0 A1 : Option Addr} {c0 c1 : Nat} (l : List S31) (x1 : List Int) (w : World) (_w0 : ∀ o ∈ l, Open.Fit o) (y0 : Kd.C k31 w A0 l.length l ∧ l.length ≤ c0) (w1 : ∀ y ∈ x1, 0 ≤ y ∧ y < 256) (y1 : Kd.C (Kd.int .u8) w A1 x1.length x1 ∧ x1.length ≤ c1) :
    Calls Try.prog 3 #[.slice A0 l.length c0, .slice A1 x1.length c1] w fun e w' => e = .returned (.bool true) ∧ Below w.heap.size w w' :=
  silhouettelaw12_ScriptTells.calls (60000 + 1) A0 c0 l A1 c1 x1 true rfl w y0.1 y0.2 y1.1 y1.2 (tells_pure' 60000 (by decide) l x1 w1)
end Go.Proofs.Ytmifcdmkobammaa.Q
