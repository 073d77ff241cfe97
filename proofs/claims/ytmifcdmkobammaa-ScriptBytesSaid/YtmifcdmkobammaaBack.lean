/- Layer 12: what is read of any bytes is written as those bytes, in plain Lean. -/
import Derived.Test.YtmifcdmkobammaaCommon
namespace Go.Proofs.Ytmifcdmkobammaa.ScriptWalk
open Go.RowKit Go.Proofs.Ytmifcdmkobammaa.Parts Go.Proofs.Ytmifcdmkobammaa.Q
theorem many_lt (x : Int) (l : List Int) (h : 0 ≤ x ∧ x < 18446744073709551616) : 0 ≤ many x l ∧ many x l < 18446744073709551616 := by
  induction l generalizing x with
  | nil => exact h
  | cons y l ih =>
    show 0 ≤ many ((x * 256 + y) % 18446744073709551616) l ∧ many ((x * 256 + y) % 18446744073709551616) l < 18446744073709551616
    exact ih _ ⟨by omega, by omega⟩
theorem top_many (l : List Int) (hl : l.length = 8) (hb : ∀ y ∈ l, 0 ≤ y ∧ y < 256) : top (many 0 l) 8 = l := by
  match l, hl with
  | [a, b, c, d, e, f, g, h], _ =>
    obtain ⟨a0, a1⟩ := hb a (by simp)
    obtain ⟨b0, b1⟩ := hb b (by simp)
    obtain ⟨c0, c1⟩ := hb c (by simp)
    obtain ⟨d0, d1⟩ := hb d (by simp)
    obtain ⟨e0, e1⟩ := hb e (by simp)
    obtain ⟨f0, f1⟩ := hb f (by simp)
    obtain ⟨g0, g1⟩ := hb g (by simp)
    obtain ⟨h0, h1⟩ := hb h (by simp)
    have e8 : ∀ a : Int, top a 8 = [a / 72057594037927936 % 256, a / 281474976710656 % 256, a / 1099511627776 % 256, a / 4294967296 % 256, a / 16777216 % 256, a / 65536 % 256, a / 256 % 256, a / 1 % 256] := fun _ => rfl
    have st : ∀ (m y q : Int), 0 ≤ m → m < q → q * 256 ≤ 18446744073709551616 → 0 ≤ y → y < 256 → (m * 256 + y) % 18446744073709551616 = m * 256 + y := by
      intro m y q h1 h2 h3 h4 h5; omega
    rw [e8]
    simp only [many, List.foldl]
    rw [st 0 a 1 (by omega) (by omega) (by omega) a0 a1]
    rw [st _ b 256 (by omega) (by omega) (by omega) b0 b1]
    rw [st _ c 65536 (by omega) (by omega) (by omega) c0 c1]
    rw [st _ d 16777216 (by omega) (by omega) (by omega) d0 d1]
    rw [st _ e 4294967296 (by omega) (by omega) (by omega) e0 e1]
    rw [st _ f 1099511627776 (by omega) (by omega) (by omega) f0 f1]
    rw [st _ g 281474976710656 (by omega) (by omega) (by omega) g0 g1]
    rw [st _ h 72057594037927936 (by omega) (by omega) (by omega) h0 h1]
    congr 1
    · omega
    congr 1
    · omega
    congr 1
    · omega
    congr 1
    · omega
    congr 1
    · omega
    congr 1
    · omega
    congr 1
    · omega
    congr 1
    · omega
theorem readAll_inv {c : UInt8} {L : List UInt8} {f : Five} {ys : List Int} {r : Five × List Int} (h : readAll (c :: L) f ys = some r) : ∃ w zs, w.length = width c ∧ ys = w ++ zs ∧ readAll L (readOne c f (w ++ zs)) zs = some r := by
  unfold readAll at h
  by_cases hw : ys.length < width c
  · rw [if_pos hw] at h; cases h
  · rw [if_neg hw] at h
    refine ⟨ys.take (width c), ys.drop (width c), by rw [List.length_take]; omega, (List.take_append_drop _ _).symm, ?_⟩
    rw [List.take_append_drop]
    exact h
theorem inv_u {L : List UInt8} {f : Five} {ys : List Int} {r : Five × List Int} (h : readAll (117 :: L) f ys = some r) : readAll L f ys = some r := by
  obtain ⟨w, zs, hw, rfl, hr⟩ := readAll_inv h
  have : w = [] := List.length_eq_zero_iff.1 hw
  subst this
  exact hr
theorem inv_A {L : List UInt8} {f : Five} {ys : List Int} {r : Five × List Int} (h : readAll (65 :: L) f ys = some r) : ∃ w zs, w.length = 8 ∧ ys = w ++ zs ∧ readAll L { f with a := many f.a w } zs = some r := by
  obtain ⟨w, zs, hw, rfl, hr⟩ := readAll_inv h
  refine ⟨w, zs, hw, rfl, ?_⟩
  rw [← hr]
  show _ = readAll L ({ f with a := many f.a ((w ++ zs).take 8) } : Five) zs
  rw [List.take_left' (show w.length = 8 from hw)]
theorem inv_V {L : List UInt8} {f : Five} {ys : List Int} {r : Five × List Int} (h : readAll (86 :: L) f ys = some r) : ∃ w zs, w.length = 8 ∧ ys = w ++ zs ∧ readAll L { f with v := many f.v w } zs = some r := by
  obtain ⟨w, zs, hw, rfl, hr⟩ := readAll_inv h
  refine ⟨w, zs, hw, rfl, ?_⟩
  rw [← hr]
  show _ = readAll L ({ f with v := many f.v ((w ++ zs).take 8) } : Five) zs
  rw [List.take_left' (show w.length = 8 from hw)]
theorem len_one {w : List Int} (h : w.length = 1) : ∃ y, w = [y] := by
  match w, h with
  | [y], _ => exact ⟨y, rfl⟩
theorem inv_G {L : List UInt8} {f : Five} {ys : List Int} {r : Five × List Int} (h : readAll (71 :: L) f ys = some r) : ∃ y zs, ys = y :: zs ∧ readAll L { f with g := y } zs = some r := by
  obtain ⟨w, zs, hw, rfl, hr⟩ := readAll_inv h
  obtain ⟨y, rfl⟩ := len_one hw
  exact ⟨y, zs, rfl, hr⟩
theorem inv_I {L : List UInt8} {f : Five} {ys : List Int} {r : Five × List Int} (h : readAll (73 :: L) f ys = some r) : ∃ y zs, ys = y :: zs ∧ readAll L { f with i := y } zs = some r := by
  obtain ⟨w, zs, hw, rfl, hr⟩ := readAll_inv h
  obtain ⟨y, rfl⟩ := len_one hw
  exact ⟨y, zs, rfl, hr⟩
theorem inv_N {L : List UInt8} {f : Five} {ys : List Int} {r : Five × List Int} (h : readAll (78 :: L) f ys = some r) : ∃ y zs, ys = y :: zs ∧ readAll L { f with n := y } zs = some r := by
  obtain ⟨w, zs, hw, rfl, hr⟩ := readAll_inv h
  obtain ⟨y, rfl⟩ := len_one hw
  exact ⟨y, zs, rfl, hr⟩
/-- What is read is written so. -/
def Tells (k : Int) (f : Five) (zs ys : List Int) : Prop := wroteAll f.a f.v f.g f.i f.n (letters k) ++ zs = ys ∧ (0 ≤ f.a ∧ f.a < 18446744073709551616) ∧ (0 ≤ f.v ∧ f.v < 18446744073709551616) ∧ (0 ≤ f.g ∧ f.g < 256) ∧ (0 ≤ f.i ∧ f.i < 256) ∧ (0 ≤ f.n ∧ f.n < 256) ∧
  own k 65 f.a = f.a ∧ own k 86 f.v = f.v ∧ own k 71 f.g = f.g ∧ own k 73 f.i = f.i ∧ own k 78 f.n = f.n
theorem done_of {f f' : Five} {ys zs : List Int} (h : readAll [] f ys = some (f', zs)) : f' = f ∧ zs = ys := by
  unfold readAll at h
  simp only [Option.some.injEq, Prod.mk.injEq] at h
  exact ⟨h.1.symm, h.2.symm⟩
theorem tells_of {k : Int} {f : Five} {ys zs : List Int} (hb : ∀ y ∈ ys, 0 ≤ y ∧ y < 256) (h : readAll (letters k) five0 ys = some (f, zs)) : Tells k f zs ys := by
  have z0 : (0 : Int) ≤ 0 ∧ (0 : Int) < 18446744073709551616 := by omega
  have z1 : (0 : Int) ≤ 0 ∧ (0 : Int) < 256 := by omega
  have w0 : ∀ a v g i n, wrote a v g i n 117 = [] := fun _ _ _ _ _ => rfl
  have w1 : ∀ a v g i n, wrote a v g i n 65 = top a 8 := fun _ _ _ _ _ => rfl
  have w2 : ∀ a v g i n, wrote a v g i n 86 = top v 8 := fun _ _ _ _ _ => rfl
  have w3 : ∀ a v g i n, wrote a v g i n 71 = [g % 256] := fun _ _ _ _ _ => rfl
  have w4 : ∀ a v g i n, wrote a v g i n 73 = [i % 256] := fun _ _ _ _ _ => rfl
  have w5 : ∀ a v g i n, wrote a v g i n 78 = [n % 256] := fun _ _ _ _ _ => rfl
  have A1 : ∀ {m}, letters m = [117, 65] → readAll (letters m) five0 ys = some (f, zs) → (∃ w, w.length = 8 ∧ ys = w ++ zs ∧ f = ⟨many 0 w, 0, 0, 0, 0⟩) := by
    intro m e q
    rw [e] at q
    obtain ⟨w, zs', hw, ey, q2⟩ := inv_A (inv_u q)
    obtain ⟨rfl, rfl⟩ := done_of q2
    exact ⟨w, hw, ey, rfl⟩
  have A2 : ∀ {m}, letters m = [65] → readAll (letters m) five0 ys = some (f, zs) → (∃ w, w.length = 8 ∧ ys = w ++ zs ∧ f = ⟨many 0 w, 0, 0, 0, 0⟩) := by
    intro m e q
    rw [e] at q
    obtain ⟨w, zs', hw, ey, q2⟩ := inv_A q
    obtain ⟨rfl, rfl⟩ := done_of q2
    exact ⟨w, hw, ey, rfl⟩
  have sub : ∀ {w : List Int}, ys = w ++ zs → ∀ y ∈ w, 0 ≤ y ∧ y < 256 := fun e y hy => hb y (by rw [e]; exact List.mem_append_left _ hy)
  rcases kinds k with rfl | rfl | rfl | rfl | rfl | rfl | rfl | rfl | rfl | hk
  · obtain ⟨w, hw, e, rfl⟩ := A1 rfl h
    refine ⟨?_, many_lt 0 w z0, z0, z1, z1, z1, rfl, rfl, rfl, rfl, rfl⟩
    show wroteAll _ _ _ _ _ [117, 65] ++ zs = ys
    simp only [wroteAll, List.flatMap_cons, List.flatMap_nil, w0, w1, List.nil_append, List.append_nil, top_many w hw (sub e), e]
  · have h' : readAll [117, 65, 86] five0 ys = some (f, zs) := h
    obtain ⟨w, zs', hw, e, h'⟩ := inv_A (inv_u h')
    obtain ⟨u, zs'', hu, e', h'⟩ := inv_V h'
    obtain ⟨rfl, rfl⟩ := done_of h'
    subst e'
    have hbw : ∀ y ∈ w, 0 ≤ y ∧ y < 256 := fun y hy => hb y (by rw [e]; exact List.mem_append_left _ hy)
    have hbu : ∀ y ∈ u, 0 ≤ y ∧ y < 256 := fun y hy => hb y (by rw [e]; exact List.mem_append_right _ (List.mem_append_left _ hy))
    refine ⟨?_, many_lt 0 w z0, many_lt 0 u z0, z1, z1, z1, rfl, rfl, rfl, rfl, rfl⟩
    show wroteAll (many 0 w) (many 0 u) _ _ _ [117, 65, 86] ++ zs = ys
    simp only [wroteAll, List.flatMap_cons, List.flatMap_nil, w0, w1, w2, List.nil_append, List.append_nil, top_many w hw hbw, top_many u hu hbu, e, List.append_assoc]
  · obtain ⟨w, hw, e, rfl⟩ := A1 rfl h
    refine ⟨?_, many_lt 0 w z0, z0, z1, z1, z1, rfl, rfl, rfl, rfl, rfl⟩
    show wroteAll _ _ _ _ _ [117, 65] ++ zs = ys
    simp only [wroteAll, List.flatMap_cons, List.flatMap_nil, w0, w1, List.nil_append, List.append_nil, top_many w hw (sub e), e]
  · obtain ⟨w, hw, e, rfl⟩ := A2 rfl h
    refine ⟨?_, many_lt 0 w z0, z0, z1, z1, z1, rfl, rfl, rfl, rfl, rfl⟩
    show wroteAll _ _ _ _ _ [65] ++ zs = ys
    simp only [wroteAll, List.flatMap_cons, List.flatMap_nil, w1, List.append_nil, top_many w hw (sub e), e]
  · have h' : readAll [71] five0 ys = some (f, zs) := h
    obtain ⟨y, zs', e, h'⟩ := inv_G h'
    obtain ⟨rfl, rfl⟩ := done_of h'
    have hy := hb y (by rw [e]; simp)
    refine ⟨?_, z0, z0, hy, z1, z1, rfl, rfl, rfl, rfl, rfl⟩
    show wroteAll _ _ _ _ _ [71] ++ zs = ys
    simp only [wroteAll, List.flatMap_cons, List.flatMap_nil, w3, e, List.append_nil, List.singleton_append]
    congr 1
    omega
  · have h' : readAll [71, 73, 86] five0 ys = some (f, zs) := h
    obtain ⟨y, zs', e, h'⟩ := inv_G h'
    obtain ⟨x, zs'', e', h'⟩ := inv_I h'
    obtain ⟨u, zs3, hu, e'', h'⟩ := inv_V h'
    obtain ⟨rfl, rfl⟩ := done_of h'
    subst e''; subst e'
    have hy := hb y (by rw [e]; simp)
    have hx := hb x (by rw [e]; simp)
    have hbu : ∀ y ∈ u, 0 ≤ y ∧ y < 256 := fun y hy => hb y (by rw [e]; simp [hy])
    refine ⟨?_, z0, many_lt 0 u z0, hy, hx, z1, rfl, rfl, rfl, rfl, rfl⟩
    show wroteAll 0 (many 0 u) y x 0 [71, 73, 86] ++ zs = ys
    simp only [wroteAll, List.flatMap_cons, List.flatMap_nil, w3, w4, w2, e, List.append_nil, top_many u hu hbu, List.cons_append, List.nil_append]
    congr 1
    · omega
    congr 1
    omega
  · have h' : readAll [78] five0 ys = some (f, zs) := h
    obtain ⟨y, zs', e, h'⟩ := inv_N h'
    obtain ⟨rfl, rfl⟩ := done_of h'
    have hy := hb y (by rw [e]; simp)
    refine ⟨?_, z0, z0, z1, z1, hy, rfl, rfl, rfl, rfl, rfl⟩
    show wroteAll _ _ _ _ _ [78] ++ zs = ys
    simp only [wroteAll, List.flatMap_cons, List.flatMap_nil, w5, e, List.append_nil, List.singleton_append]
    congr 1
    omega
  · obtain ⟨w, hw, e, rfl⟩ := A2 rfl h
    refine ⟨?_, many_lt 0 w z0, z0, z1, z1, z1, rfl, rfl, rfl, rfl, rfl⟩
    show wroteAll _ _ _ _ _ [65] ++ zs = ys
    simp only [wroteAll, List.flatMap_cons, List.flatMap_nil, w1, List.append_nil, top_many w hw (sub e), e]
  · have h' : readAll [78] five0 ys = some (f, zs) := h
    obtain ⟨y, zs', e, h'⟩ := inv_N h'
    obtain ⟨rfl, rfl⟩ := done_of h'
    have hy := hb y (by rw [e]; simp)
    refine ⟨?_, z0, z0, z1, z1, hy, rfl, rfl, rfl, rfl, rfl⟩
    show wroteAll _ _ _ _ _ [78] ++ zs = ys
    simp only [wroteAll, List.flatMap_cons, List.flatMap_nil, w5, e, List.append_nil, List.singleton_append]
    congr 1
    omega
  · rw [letters_no hk] at h
    obtain ⟨rfl, rfl⟩ := done_of h
    refine ⟨?_, z0, z0, z1, z1, z1, ?_, ?_, ?_, ?_, ?_⟩
    · rw [letters_no hk]; rfl
    all_goals (unfold own; rw [letters_no hk]; rfl)
theorem mk_wide {x : Int} {f : Five} {xs zs : List Int} (hb : ∀ y ∈ x :: xs, 0 ≤ y ∧ y < 256) (h : readAll (letters (x % 128)) five0 xs = some (f, zs)) : wide31 (mk31 x f) ++ zs = x :: xs ∧ Open.Fit (mk31 x f) := by
  have hx := hb x (by simp)
  obtain ⟨e, ha, hv, hg, hi, hn, _⟩ := tells_of (fun y hy => hb y (List.mem_cons_of_mem _ hy)) h
  refine ⟨?_, ⟨by show _ ≤ x % 128; omega, by show x % 128 < _; omega⟩, ha, hv, ⟨by have := hg.1; show _ ≤ f.g; omega, by have := hg.2; show f.g < _; omega⟩, ⟨by have := hi.1; show _ ≤ f.i; omega, by have := hi.2; show f.i < _; omega⟩, ⟨by have := hn.1; show _ ≤ f.n; omega, by have := hn.2; show f.n < _; omega⟩⟩
  show (if decide (128 ≤ x) = true then x % 128 + 128 else x % 128) :: (wroteAll f.a f.v f.g f.i f.n (letters (x % 128)) ++ zs) = x :: xs
  rw [e]
  congr 1
  by_cases h128 : 128 ≤ x
  · rw [if_pos (decide_eq_true h128)]; omega
  · rw [if_neg (by rw [decide_eq_false h128]; decide)]; omega
/-- script.Get of any bytes: what it tells is right, and its bytes are the first ones. -/
theorem getL_tells (n0 : Nat) : ∀ (k : Nat) (ys : List Int) (out : List S31), (∀ y ∈ ys, 0 ≤ y ∧ y < 256) → ys.length < k → ∃ (l : List S31) (zs : List Int) (e : Int), getL n0 k out ys = some (out ++ l, (n0 : Int) - (zs.length : Int), e) ∧ l.all right31 = true ∧ (∀ o ∈ l, Open.Fit o) ∧ ys = l.flatMap wide31 ++ zs ∧ l.length ≤ ys.length ∧ (e = 0 ∧ zs = [] ∨ e = 12 ∧ zs ≠ []) := by
  intro k
  induction k with
  | zero => intro ys out hb hk; omega
  | succ k ih =>
    intro ys out hb hk
    cases ys with
    | nil => exact ⟨[], [], 0, by simp [getL], rfl, by simp, rfl, by simp, .inl ⟨rfl, rfl⟩⟩
    | cons x xs =>
      rw [getL_cons]
      cases hr : readAll (letters (x % 128)) five0 xs with
      | none => exact ⟨[], x :: xs, 12, by simp, rfl, by simp, rfl, by simp, .inr ⟨rfl, by simp⟩⟩
      | some p =>
        obtain ⟨f, zs⟩ := p
        obtain ⟨hw, hfit⟩ := mk_wide hb hr
        dsimp only
        cases hri : right31 (mk31 x f) with
        | false =>
          rw [if_neg (by decide)]
          exact ⟨[], x :: xs, 12, by simp, rfl, by simp, rfl, by simp, .inr ⟨rfl, by simp⟩⟩
        | true =>
          rw [if_pos rfl]
          have hlen := readAll_len _ _ _ _ _ hr
          have hbz : ∀ y ∈ zs, 0 ≤ y ∧ y < 256 := fun y hy => hb y (by rw [← hw]; exact List.mem_append_right _ hy)
          obtain ⟨l, zs2, e, hg, ha, hf, he, hl, hend⟩ := ih zs (out ++ [mk31 x f]) hbz (by simp only [List.length_cons] at hk; omega)
          refine ⟨mk31 x f :: l, zs2, e, ?_, ?_, ?_, ?_, ?_, hend⟩
          · rw [hg, List.append_assoc, List.singleton_append]
          · rw [List.all_cons, hri, ha]; rfl
          · intro o ho
            rcases List.mem_cons.1 ho with rfl | ho
            · exact hfit
            · exact hf o ho
          · rw [List.flatMap_cons, List.append_assoc, ← he, hw]
          · simp only [List.length_cons]; omega
/-- How many bytes some letters take. -/
def widths (L : List UInt8) : Nat := (L.map width).sum
theorem readAll_short : ∀ (L : List UInt8) (f : Five) (ys : List Int), ys.length < widths L → readAll L f ys = none := by
  intro L
  induction L with
  | nil => intro f ys h; simp [widths] at h
  | cons c L ih =>
    intro f ys h
    unfold readAll
    by_cases hw : ys.length < width c
    · rw [if_pos hw]
    · rw [if_neg hw]
      have e : widths (c :: L) = width c + widths L := by simp [widths]
      exact ih _ _ (by rw [List.length_drop]; omega)
theorem wroteAll_widths (a v g i n : Int) (k : Int) : (wroteAll a v g i n (letters k)).length = widths (letters k) := by
  rcases kinds k with rfl | rfl | rfl | rfl | rfl | rfl | rfl | rfl | rfl | h
  iterate 9 · rfl
  · rw [letters_no h]; rfl
theorem wide_len (o : S31) : (wide31 o).length = 1 + widths (letters o.f0) := by
  unfold wide31; rw [List.length_cons, wroteAll_widths]; omega
/-- An operation's bytes, cut. -/
theorem getL_cut (n0 k : Nat) (out : List S31) (o : S31) (c : Nat) (hr : right31 o = true) (h0 : 0 < c) (hc : c < (wide31 o).length) : getL n0 (k + 1) out ((wide31 o).take c) = some (out, (n0 : Int) - (c : Int), 12) := by
  obtain ⟨c, rfl⟩ : ∃ d, c = d + 1 := ⟨c - 1, by omega⟩
  have hk := right31_facts hr
  have hm : (if o.f1 = true then o.f0 + 128 else o.f0) % 128 = o.f0 := by split <;> omega
  have hw := wide_len o
  rw [show wide31 o = (if o.f1 = true then o.f0 + 128 else o.f0) :: wroteAll o.f2 o.f3 o.f4 o.f5 o.f6 (letters o.f0) from rfl, List.take_succ_cons, getL_cons, hm]
  have hl := wroteAll_widths o.f2 o.f3 o.f4 o.f5 o.f6 o.f0
  rw [readAll_short _ _ _ (by rw [List.length_take]; omega)]
  simp only [List.length_take]
  congr 2
  congr 1
  omega
end Go.Proofs.Ytmifcdmkobammaa.ScriptWalk
