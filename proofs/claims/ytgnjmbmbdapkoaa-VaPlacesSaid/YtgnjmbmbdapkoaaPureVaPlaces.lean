/- Layer 5, the statement VaPlaces over numbers alone: a page's places, of all levels, tell it; each place is 0 to 7; for every input, no condition. -/
import Derived.Test.YtgnjmbmbdapkoaaPVaPlacesx1
import Derived.Test.YtgnjmbmbdapkoaaArith
namespace Go.Proofs.Ytgnjmbmbdapkoaa.Pure
open Go.RowKit Go.Proofs.Ytgnjmbmbdapkoaa.PVaPlaces Go.Proofs.YtgnjmbmbdapkoaaW.PrintWords Go.Proofs.YtgnjmbmbdapkoaaW.PrintLast Go.Proofs.YtgnjmbmbdapkoaaW.PrintMore Go.Proofs.Ytgnjmbmbdapkoaa.Arith
namespace LVaPlaces
theorem wide (a : Int) (h0 : 0 ≤ a) (h1 : a < 18446744073709551616) : va_wide.f a = some (wideF a) := by
  unfold va_wide.f; rw [wide_eq a h0 h1]
theorem canon (a : Int) (h0 : 0 ≤ a) (h1 : a < 18446744073709551616) : va_Canon.f a = some (wideF a == a) := by
  unfold va_Canon.f; rw [wide a h0 h1]; rfl
theorem cut03 (a : Int) : va_cut_uint64.f a 0 3 = some (a % 8) := by
  unfold va_cut_uint64.f
  rw [if_pos (by decide), if_pos (by decide), shl1_3, shr_0, show IntKind.u64.wrap (8 - 1) = 7 from by decide, and7_u64]
  congr 1; unfold wrap64; omega
theorem cut69 (a : Int) : va_cut_uint64.f a 6 9 = some (a / 64 % 512) := by
  unfold va_cut_uint64.f
  rw [if_pos (by decide), if_pos (by decide), shl1_9, shr_6, show IntKind.u64.wrap (512 - 1) = 511 from by decide, and511_u64]
  congr 1; unfold wrap64; omega
theorem cut33 (a : Int) : va_cut_uint64.f a 3 3 = some (a / 8 % 8) := by
  unfold va_cut_uint64.f
  rw [if_pos (by decide), if_pos (by decide), shl1_3, shr_3, show IntKind.u64.wrap (8 - 1) = 7 from by decide, and7_u64]
  congr 1; unfold wrap64; omega
theorem aligned (a : Int) : va_Aligned.f a = some (a % 8 == 0) := by unfold va_Aligned.f; rw [cut03]; rfl
theorem page (a : Int) : va_Page.f a = some (a / 64 % 512) := by unfold va_Page.f; rw [cut69]; rfl
theorem word (a : Int) : va_Word.f a = some (a / 8 % 8) := by unfold va_Word.f; rw [cut33]; rfl
theorem cuti09 (a : Int) : va_cut_int.f a 0 9 = some (a % 512) := by
  unfold va_cut_int.f
  rw [if_pos (by decide), if_pos (by decide), shli1_9, shr_0, show wrap64 (512 - 1) = 511 from by (unfold wrap64; omega), and511_i64]
theorem cuti03 (a : Int) : va_cut_int.f a 0 3 = some (a % 8) := by
  unfold va_cut_int.f
  rw [if_pos (by decide), if_pos (by decide), shli1_3, shr_0, show wrap64 (8 - 1) = 7 from by (unfold wrap64; omega), and7_i64]
theorem cuti33 (a : Int) : va_cut_int.f a 3 3 = some (a / 8 % 8) := by
  unfold va_cut_int.f
  rw [if_pos (by decide), if_pos (by decide), shli1_3, shri_3, show wrap64 (8 - 1) = 7 from by (unfold wrap64; omega), and7_i64]
theorem cuti63 (a : Int) : va_cut_int.f a 6 3 = some (a / 64 % 8) := by
  unfold va_cut_int.f
  rw [if_pos (by decide), if_pos (by decide), shli1_3, shri_6, show wrap64 (8 - 1) = 7 from by (unfold wrap64; omega), and7_i64]
theorem join (p w : Int) : va_Join.f p w = some (wideF (64 * (p % 512) + 8 * (w % 8))) := by
  unfold va_Join.f
  rw [cuti09, cuti03]
  simp only [Option.bind_some]
  rw [show wrap64 (p % 512 * 64) = p % 512 * 64 from by unfold wrap64; omega, show wrap64 (w % 8 * 8) = w % 8 * 8 from by unfold wrap64; omega,
    or_i64 _ _ (by omega) (by omega) (by omega) (by omega) (by omega), wrap_u64,
    show (p % 512 * 64 + w % 8 * 8) % 18446744073709551616 = 64 * (p % 512) + 8 * (w % 8) from by omega, wide _ (by omega) (by omega)]
  rfl
theorem idx1 (p : Int) : va_Idx.f p 1 = some (p % 8) := by
  unfold va_Idx.f
  rw [if_neg (by decide), if_neg (by decide), show wrap64 (wrap64 (1 - 1) * 3) = 0 from by (unfold wrap64; omega), cuti03]; rfl
theorem idx2 (p : Int) : va_Idx.f p 2 = some (p / 8 % 8) := by
  unfold va_Idx.f
  rw [if_neg (by decide), if_neg (by decide), show wrap64 (wrap64 (2 - 1) * 3) = 3 from by (unfold wrap64; omega), cuti33]; rfl
theorem idx3 (p : Int) : va_Idx.f p 3 = some (p / 64 % 8) := by
  unfold va_Idx.f
  rw [if_neg (by decide), if_neg (by decide), show wrap64 (wrap64 (3 - 1) * 3) = 6 from by (unfold wrap64; omega), cuti63]; rfl
theorem idx0 (p l : Int) (h : l < 1 ∨ l > 3) : va_Idx.f p l = some 0 := by
  unfold va_Idx.f
  by_cases h1 : l < 1
  · rw [if_pos h1]
  · rw [if_neg h1, if_pos (by omega)]
set_option maxRecDepth 100000 in
theorem head : silhouettelaw05_head.f = some true := by decide +kernel
end LVaPlaces
open LVaPlaces

theorem VaPlaces : silhouettelaw05_VaPlaces.Pure := by
  intro a0 a1 w0 w1
  have b0 := wf_u16 w0
  have b1 := wf_u16 w1
  refine ⟨4, ?_⟩
  unfold silhouettelaw05_VaPlaces.f
  have e0 : wrap64 (Int.tmod a0 512) = a0 % 512 := by rw [Int.tmod_eq_emod_of_nonneg b0.1]; unfold wrap64; omega
  have e1 : wrap64 (Int.tmod a1 512) = a1 % 512 := by rw [Int.tmod_eq_emod_of_nonneg b1.1]; unfold wrap64; omega
  rw [head, e0, e1]
  have hp : 0 ≤ a0 % 512 ∧ a0 % 512 < 512 := by omega
  have hq : 0 ≤ a1 % 512 ∧ a1 % 512 < 512 := by omega
  generalize a0 % 512 = p at *
  generalize a1 % 512 = q at *
  simp only [Option.bind_some]
  have n1 : wrap64 (wrap64 (8 * 0) + p / 64 % 8) = p / 64 := by unfold wrap64; omega
  have n2 : wrap64 (wrap64 (8 * (p / 64)) + p / 8 % 8) = p / 8 := by unfold wrap64; omega
  have n3 : wrap64 (wrap64 (8 * (p / 8)) + p % 8) = p := by unfold wrap64; omega
  have d3 : wrap64 (3 - 1) = 2 := by unfold wrap64; omega
  have d2 : wrap64 (2 - 1) = 1 := by unfold wrap64; omega
  have d1 : wrap64 (1 - 1) = 0 := by unfold wrap64; omega
  simp only [silhouettelaw05_VaPlaces.l0, idx1, idx2, idx3, Option.bind_some, if_true, d3, d2, d1]
  have g3 : (3 : Int) ≥ 1 := by decide
  have g2 : (2 : Int) ≥ 1 := by decide
  have g1 : (1 : Int) ≥ 1 := by decide
  have g0 : ¬ (0 : Int) ≥ 1 := by decide
  have lo3 : ¬ p / 64 % 8 < 0 := by omega
  have hi3 : ¬ p / 64 % 8 > 7 := by omega
  have lo2 : ¬ p / 8 % 8 < 0 := by omega
  have hi2 : ¬ p / 8 % 8 > 7 := by omega
  have lo1 : ¬ p % 8 < 0 := by omega
  have hi1 : ¬ p % 8 > 7 := by omega
  have ff : ¬ false = true := by decide
  simp only [if_pos g3, if_pos g2, if_pos g1, if_neg g0, if_neg lo3, if_neg hi3, if_neg lo2, if_neg hi2, if_neg lo1, if_neg hi1, n1, n2, n3]
  by_cases h3 : p / 64 % 8 = q / 64 % 8
  · rw [beq_t h3, if_pos rfl]
    by_cases h2 : p / 8 % 8 = q / 8 % 8
    · rw [beq_t h2, if_pos rfl]
      by_cases h1 : p % 8 = q % 8
      · have : p = q := by omega
        simp [this]
      · have : ¬ p = q := by omega
        rw [beq_f h1, beq_f this]; simp
    · have : ¬ p = q := by intro h; subst h; exact h2 rfl
      rw [beq_f h2, if_neg ff, beq_f this]; simp
  · have : ¬ p = q := by intro h; subst h; exact h3 rfl
    rw [beq_f h3, if_neg ff, beq_f this]; simp

end Go.Proofs.Ytgnjmbmbdapkoaa.Pure
