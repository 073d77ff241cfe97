/- Layer 5, the statement VaTells over numbers alone: whether any address is canonical, and aligned, its page and word, the address of any page and word, and places in tables, are the document's; for every input, no condition. -/
import Derived.Test.YtgnjmbmbdapkoaaPVaTellsx1
import Derived.Test.YtgnjmbmbdapkoaaArith
namespace Go.Proofs.Ytgnjmbmbdapkoaa.Pure
open Go.RowKit Go.Proofs.Ytgnjmbmbdapkoaa.PVaTells Go.Proofs.YtgnjmbmbdapkoaaW.PrintWords Go.Proofs.YtgnjmbmbdapkoaaW.PrintLast Go.Proofs.YtgnjmbmbdapkoaaW.PrintMore Go.Proofs.Ytgnjmbmbdapkoaa.Arith
namespace LVaTells
theorem wide (a : Int) (h0 : 0 ≤ a) (h1 : a < 18446744073709551616) : va_wide.f a = some (wideF a) := by
  unfold va_wide.f; rw [wide_eq a h0 h1]
theorem canon (a : Int) (h0 : 0 ≤ a) (h1 : a < 18446744073709551616) : va_Canon.f a = some (wideF a == a) := by
  unfold va_Canon.f; rw [wide a h0 h1]; rfl
theorem cut03 (a : Int) : va_cut_uint64.f a 0 3 = some (a % 8) := by
  unfold va_cut_uint64.f
  rw [if_pos (by decide), if_pos (by decide), shl1_3, shr_0, show IntKind.u64.wrap (8 - 1) = 7 from by decide, and7_u64]
  congr 1; unfold wrap64; omega
theorem cut69 (a : Int) : va_cut_uint64.f a 6 9 = some (a / 64 % 512) := by
  unfold va_cut_uint64.f
  rw [if_pos (by decide), if_pos (by decide), shl1_9, shr_6, show IntKind.u64.wrap (512 - 1) = 511 from by decide, and511_u64]
  congr 1; unfold wrap64; omega
theorem cut33 (a : Int) : va_cut_uint64.f a 3 3 = some (a / 8 % 8) := by
  unfold va_cut_uint64.f
  rw [if_pos (by decide), if_pos (by decide), shl1_3, shr_3, show IntKind.u64.wrap (8 - 1) = 7 from by decide, and7_u64]
  congr 1; unfold wrap64; omega
theorem aligned (a : Int) : va_Aligned.f a = some (a % 8 == 0) := by unfold va_Aligned.f; rw [cut03]; rfl
theorem page (a : Int) : va_Page.f a = some (a / 64 % 512) := by unfold va_Page.f; rw [cut69]; rfl
theorem word (a : Int) : va_Word.f a = some (a / 8 % 8) := by unfold va_Word.f; rw [cut33]; rfl
theorem cuti09 (a : Int) : va_cut_int.f a 0 9 = some (a % 512) := by
  unfold va_cut_int.f
  rw [if_pos (by decide), if_pos (by decide), shli1_9, shr_0, show wrap64 (512 - 1) = 511 from by (unfold wrap64; omega), and511_i64]
theorem cuti03 (a : Int) : va_cut_int.f a 0 3 = some (a % 8) := by
  unfold va_cut_int.f
  rw [if_pos (by decide), if_pos (by decide), shli1_3, shr_0, show wrap64 (8 - 1) = 7 from by (unfold wrap64; omega), and7_i64]
theorem cuti33 (a : Int) : va_cut_int.f a 3 3 = some (a / 8 % 8) := by
  unfold va_cut_int.f
  rw [if_pos (by decide), if_pos (by decide), shli1_3, shri_3, show wrap64 (8 - 1) = 7 from by (unfold wrap64; omega), and7_i64]
theorem cuti63 (a : Int) : va_cut_int.f a 6 3 = some (a / 64 % 8) := by
  unfold va_cut_int.f
  rw [if_pos (by decide), if_pos (by decide), shli1_3, shri_6, show wrap64 (8 - 1) = 7 from by (unfold wrap64; omega), and7_i64]
theorem join (p w : Int) : va_Join.f p w = some (wideF (64 * (p % 512) + 8 * (w % 8))) := by
  unfold va_Join.f
  rw [cuti09, cuti03]
  simp only [Option.bind_some]
  rw [show wrap64 (p % 512 * 64) = p % 512 * 64 from by unfold wrap64; omega, show wrap64 (w % 8 * 8) = w % 8 * 8 from by unfold wrap64; omega,
    or_i64 _ _ (by omega) (by omega) (by omega) (by omega) (by omega), wrap_u64,
    show (p % 512 * 64 + w % 8 * 8) % 18446744073709551616 = 64 * (p % 512) + 8 * (w % 8) from by omega, wide _ (by omega) (by omega)]
  rfl
theorem idx1 (p : Int) : va_Idx.f p 1 = some (p % 8) := by
  unfold va_Idx.f
  rw [if_neg (by decide), if_neg (by decide), show wrap64 (wrap64 (1 - 1) * 3) = 0 from by (unfold wrap64; omega), cuti03]; rfl
theorem idx2 (p : Int) : va_Idx.f p 2 = some (p / 8 % 8) := by
  unfold va_Idx.f
  rw [if_neg (by decide), if_neg (by decide), show wrap64 (wrap64 (2 - 1) * 3) = 3 from by (unfold wrap64; omega), cuti33]; rfl
theorem idx3 (p : Int) : va_Idx.f p 3 = some (p / 64 % 8) := by
  unfold va_Idx.f
  rw [if_neg (by decide), if_neg (by decide), show wrap64 (wrap64 (3 - 1) * 3) = 6 from by (unfold wrap64; omega), cuti63]; rfl
theorem idx0 (p l : Int) (h : l < 1 ∨ l > 3) : va_Idx.f p l = some 0 := by
  unfold va_Idx.f
  by_cases h1 : l < 1
  · rw [if_pos h1]
  · rw [if_neg h1, if_pos (by omega)]
set_option maxRecDepth 100000 in
theorem head : silhouettelaw05_head.f = some true := by decide +kernel
theorem rcanon (a : Int) (h0 : 0 ≤ a) (h1 : a < 18446744073709551616) : silhouetteref05_Canon.f a = some (wideF a == a) := by
  unfold silhouetteref05_Canon.f wideF
  by_cases h : a / 16384 = 0
  · rw [if_pos h, if_pos (by omega)]
    have : a % 32768 = a := by omega
    simp [this]
  · rw [if_neg h]
    by_cases hs : a % 32768 < 16384
    · rw [if_pos hs]
      have e1 : ¬ a / 16384 = 1125899906842623 := by omega
      have e2 : ¬ a % 32768 = a := by omega
      rw [beq_f e1, beq_f e2]
    · rw [if_neg hs]
      by_cases e : a / 16384 = 1125899906842623
      · have e2 : a % 32768 + 18446744073709518848 = a := by omega
        simp [e, e2]
      · have e2 : ¬ a % 32768 + 18446744073709518848 = a := by omega
        rw [beq_f e, beq_f e2]
theorem rmod512 (n : Int) (_h0 : -9223372036854775808 ≤ n) (_h1 : n < 9223372036854775808) : silhouetteref05_mod.f n 512 = some (n % 512) := by
  unfold silhouetteref05_mod.f
  rw [if_neg (by decide)]
  have e : Int.tmod n 512 = if 0 ≤ n ∨ n % 512 = 0 then n % 512 else n % 512 - 512 := by
    rw [Int.tmod_eq_emod]
    simp only [Int.dvd_iff_emod_eq_zero]
    split <;> simp
  rw [e]
  by_cases h : 0 ≤ n ∨ n % 512 = 0
  · rw [if_pos h, if_neg (by omega)]
  · rw [if_neg h, if_pos (by omega)]
    congr 1; unfold wrap64; omega
theorem rmod8 (n : Int) (_h0 : -9223372036854775808 ≤ n) (_h1 : n < 9223372036854775808) : silhouetteref05_mod.f n 8 = some (n % 8) := by
  unfold silhouetteref05_mod.f
  rw [if_neg (by decide)]
  have e : Int.tmod n 8 = if 0 ≤ n ∨ n % 8 = 0 then n % 8 else n % 8 - 8 := by
    rw [Int.tmod_eq_emod]
    simp only [Int.dvd_iff_emod_eq_zero]
    split <;> simp
  rw [e]
  by_cases h : 0 ≤ n ∨ n % 8 = 0
  · rw [if_pos h, if_neg (by omega)]
  · rw [if_neg h, if_pos (by omega)]
    congr 1; unfold wrap64; omega
theorem rjoin (p w : Int) (p0 : -9223372036854775808 ≤ p) (p1 : p < 9223372036854775808) (w0 : -9223372036854775808 ≤ w) (w1 : w < 9223372036854775808) :
    silhouetteref05_Join.f p w = some (wideF (64 * (p % 512) + 8 * (w % 8))) := by
  unfold silhouetteref05_Join.f
  rw [rmod512 p p0 p1, rmod8 w w0 w1]
  simp only [Option.bind_some]
  have hp : 0 ≤ p % 512 ∧ p % 512 < 512 := by omega
  have hw : 0 ≤ w % 8 ∧ w % 8 < 8 := by omega
  generalize p % 512 = p at *
  generalize w % 8 = w at *
  have e : wrap64 (wrap64 (64 * p) + wrap64 (8 * w)) = 64 * p + 8 * w := by unfold wrap64; omega
  rw [e, wrap_u64, wrap_u64]
  unfold wideF
  by_cases h : p ≥ 256
  · rw [if_pos h, if_neg (by omega)]; congr 1; omega
  · rw [if_neg h, if_pos (by omega)]; congr 1; omega
theorem ridx (p l : Int) (p0 : -9223372036854775808 ≤ p) (p1 : p < 9223372036854775808) : silhouetteref05_Idx.f p l = va_Idx.f p l := by
  unfold silhouetteref05_Idx.f
  rw [rmod512 p p0 p1]
  simp only [Option.bind_some]
  have hp : 0 ≤ p % 512 ∧ p % 512 < 512 := by omega
  by_cases h3 : l = 3
  · subst h3
    rw [if_pos rfl, idx3, Int.tdiv_eq_ediv_of_nonneg hp.1]; congr 1; unfold wrap64; omega
  · rw [if_neg h3]
    by_cases h2 : l = 2
    · subst h2
      have e : wrap64 (Int.tdiv (p % 512) 8) = p % 512 / 8 := by rw [Int.tdiv_eq_ediv_of_nonneg hp.1]; unfold wrap64; omega
      rw [if_pos rfl, idx2, e, Int.tmod_eq_emod_of_nonneg (by omega)]; congr 1; omega
    · rw [if_neg h2]
      by_cases h1 : l = 1
      · subst h1
        rw [if_pos rfl, idx1, Int.tmod_eq_emod_of_nonneg hp.1]; congr 1; omega
      · rw [if_neg h1, idx0 p l (by omega)]
theorem idx_some (p l : Int) : ∃ r, va_Idx.f p l = some r := by
  by_cases h3 : l = 3
  · exact ⟨_, by rw [h3]; exact idx3 p⟩
  · by_cases h2 : l = 2
    · exact ⟨_, by rw [h2]; exact idx2 p⟩
    · by_cases h1 : l = 1
      · exact ⟨_, by rw [h1]; exact idx1 p⟩
      · exact ⟨0, idx0 p l (by omega)⟩

end LVaTells
open LVaTells

theorem VaTells : silhouettelaw05_VaTells.Pure := by
  intro a p w l wa wp ww _wl
  have ba := wf_u64 wa
  have bp := wf_i64 wp
  have bw := wf_i64 ww
  unfold silhouettelaw05_VaTells.f
  have r1 : silhouetteref05_Aligned.f a = some (a % 8 == 0) := by unfold silhouetteref05_Aligned.f; rw [Int.tmod_eq_emod_of_nonneg ba.1]
  have r2 : silhouetteref05_Page.f a = some (a / 64 % 512) := by
    unfold silhouetteref05_Page.f
    have e : IntKind.u64.wrap (Int.tdiv a 64) = a / 64 := by rw [Int.tdiv_eq_ediv_of_nonneg ba.1, wrap_u64]; omega
    rw [e, Int.tmod_eq_emod_of_nonneg (by omega)]; congr 1; unfold wrap64; omega
  have r3 : silhouetteref05_Word.f a = some (a / 8 % 8) := by
    unfold silhouetteref05_Word.f
    have e : IntKind.u64.wrap (Int.tdiv a 8) = a / 8 := by rw [Int.tdiv_eq_ediv_of_nonneg ba.1, wrap_u64]; omega
    rw [e, Int.tmod_eq_emod_of_nonneg (by omega)]; congr 1; unfold wrap64; omega
  obtain ⟨r, hr⟩ := idx_some p l
  rw [head, canon a ba.1 ba.2, rcanon a ba.1 ba.2, aligned, r1, page, r2, word, r3, join, rjoin p w bp.1 bp.2 bw.1 bw.2, ridx p l bp.1 bp.2, hr]
  simp

end Go.Proofs.Ytgnjmbmbdapkoaa.Pure
