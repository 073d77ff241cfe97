/- Layer 5, the statement VaNext over numbers alone: behind a page's last word the next page's first one stands, but at the two ends; words are eight apart; for every input, no condition. -/
import Derived.Test.YtgnjmbmbdapkoaaPVaNextx1
import Derived.Test.YtgnjmbmbdapkoaaArith
namespace Go.Proofs.Ytgnjmbmbdapkoaa.Pure
open Go.RowKit Go.Proofs.Ytgnjmbmbdapkoaa.PVaNext Go.Proofs.YtgnjmbmbdapkoaaW.PrintWords Go.Proofs.YtgnjmbmbdapkoaaW.PrintLast Go.Proofs.YtgnjmbmbdapkoaaW.PrintMore Go.Proofs.Ytgnjmbmbdapkoaa.Arith
namespace LVaNext
theorem wide (a : Int) (h0 : 0 ≤ a) (h1 : a < 18446744073709551616) : va_wide.f a = some (wideF a) := by
  unfold va_wide.f; rw [wide_eq a h0 h1]
theorem canon (a : Int) (h0 : 0 ≤ a) (h1 : a < 18446744073709551616) : va_Canon.f a = some (wideF a == a) := by
  unfold va_Canon.f; rw [wide a h0 h1]; rfl
theorem cut03 (a : Int) : va_cut_uint64.f a 0 3 = some (a % 8) := by
  unfold va_cut_uint64.f
  rw [if_pos (by decide), if_pos (by decide), shl1_3, shr_0, show IntKind.u64.wrap (8 - 1) = 7 from by decide, and7_u64]
  congr 1; unfold wrap64; omega
theorem cut69 (a : Int) : va_cut_uint64.f a 6 9 = some (a / 64 % 512) := by
  unfold va_cut_uint64.f
  rw [if_pos (by decide), if_pos (by decide), shl1_9, shr_6, show IntKind.u64.wrap (512 - 1) = 511 from by decide, and511_u64]
  congr 1; unfold wrap64; omega
theorem cut33 (a : Int) : va_cut_uint64.f a 3 3 = some (a / 8 % 8) := by
  unfold va_cut_uint64.f
  rw [if_pos (by decide), if_pos (by decide), shl1_3, shr_3, show IntKind.u64.wrap (8 - 1) = 7 from by decide, and7_u64]
  congr 1; unfold wrap64; omega
theorem aligned (a : Int) : va_Aligned.f a = some (a % 8 == 0) := by unfold va_Aligned.f; rw [cut03]; rfl
theorem page (a : Int) : va_Page.f a = some (a / 64 % 512) := by unfold va_Page.f; rw [cut69]; rfl
theorem word (a : Int) : va_Word.f a = some (a / 8 % 8) := by unfold va_Word.f; rw [cut33]; rfl
theorem cuti09 (a : Int) : va_cut_int.f a 0 9 = some (a % 512) := by
  unfold va_cut_int.f
  rw [if_pos (by decide), if_pos (by decide), shli1_9, shr_0, show wrap64 (512 - 1) = 511 from by (unfold wrap64; omega), and511_i64]
theorem cuti03 (a : Int) : va_cut_int.f a 0 3 = some (a % 8) := by
  unfold va_cut_int.f
  rw [if_pos (by decide), if_pos (by decide), shli1_3, shr_0, show wrap64 (8 - 1) = 7 from by (unfold wrap64; omega), and7_i64]
theorem cuti33 (a : Int) : va_cut_int.f a 3 3 = some (a / 8 % 8) := by
  unfold va_cut_int.f
  rw [if_pos (by decide), if_pos (by decide), shli1_3, shri_3, show wrap64 (8 - 1) = 7 from by (unfold wrap64; omega), and7_i64]
theorem cuti63 (a : Int) : va_cut_int.f a 6 3 = some (a / 64 % 8) := by
  unfold va_cut_int.f
  rw [if_pos (by decide), if_pos (by decide), shli1_3, shri_6, show wrap64 (8 - 1) = 7 from by (unfold wrap64; omega), and7_i64]
theorem join (p w : Int) : va_Join.f p w = some (wideF (64 * (p % 512) + 8 * (w % 8))) := by
  unfold va_Join.f
  rw [cuti09, cuti03]
  simp only [Option.bind_some]
  rw [show wrap64 (p % 512 * 64) = p % 512 * 64 from by unfold wrap64; omega, show wrap64 (w % 8 * 8) = w % 8 * 8 from by unfold wrap64; omega,
    or_i64 _ _ (by omega) (by omega) (by omega) (by omega) (by omega), wrap_u64,
    show (p % 512 * 64 + w % 8 * 8) % 18446744073709551616 = 64 * (p % 512) + 8 * (w % 8) from by omega, wide _ (by omega) (by omega)]
  rfl
theorem idx1 (p : Int) : va_Idx.f p 1 = some (p % 8) := by
  unfold va_Idx.f
  rw [if_neg (by decide), if_neg (by decide), show wrap64 (wrap64 (1 - 1) * 3) = 0 from by (unfold wrap64; omega), cuti03]; rfl
theorem idx2 (p : Int) : va_Idx.f p 2 = some (p / 8 % 8) := by
  unfold va_Idx.f
  rw [if_neg (by decide), if_neg (by decide), show wrap64 (wrap64 (2 - 1) * 3) = 3 from by (unfold wrap64; omega), cuti33]; rfl
theorem idx3 (p : Int) : va_Idx.f p 3 = some (p / 64 % 8) := by
  unfold va_Idx.f
  rw [if_neg (by decide), if_neg (by decide), show wrap64 (wrap64 (3 - 1) * 3) = 6 from by (unfold wrap64; omega), cuti63]; rfl
theorem idx0 (p l : Int) (h : l < 1 ∨ l > 3) : va_Idx.f p l = some 0 := by
  unfold va_Idx.f
  by_cases h1 : l < 1
  · rw [if_pos h1]
  · rw [if_neg h1, if_pos (by omega)]
set_option maxRecDepth 100000 in
theorem head : silhouettelaw05_head.f = some true := by decide +kernel
end LVaNext
open LVaNext

theorem VaNext : silhouettelaw05_VaNext.Pure := by
  intro p w wp ww
  have bp := wf_u16 wp
  have bw := wf_u8 ww
  refine ⟨2, ?_⟩
  unfold silhouettelaw05_VaNext.f
  have e0 : wrap64 (Int.tmod p 512) = p % 512 := by rw [Int.tmod_eq_emod_of_nonneg bp.1]; unfold wrap64; omega
  have e1 : wrap64 (Int.tmod w 8) = w % 8 := by rw [Int.tmod_eq_emod_of_nonneg bw.1]; unfold wrap64; omega
  rw [head, e0, e1]
  have hp : 0 ≤ p % 512 ∧ p % 512 < 512 := by omega
  have hw : 0 ≤ w % 8 ∧ w % 8 < 8 := by omega
  generalize p % 512 = p at *
  generalize w % 8 = w at *
  have w1 : wrap64 (w + 1) = w + 1 := by unfold wrap64; omega
  have p1 : wrap64 (p + 1) = p + 1 := by unfold wrap64; omega
  rw [w1, p1, join, join, join]
  simp only [Option.bind_some, silhouettelaw05_VaNext.j0, silhouettelaw05_VaNext.j1, if_true]
  have k : 64 * (p % 512) + 8 * (w % 8) = 64 * p + 8 * w := by omega
  rw [k]
  obtain ⟨y, hy⟩ : ∃ y, y = wideF (64 * p + 8 * w) := ⟨_, rfl⟩
  have hy0 : 0 ≤ y ∧ y < 18446744073709551616 := by rw [hy]; unfold wideF; split <;> omega
  have hy8 : 0 ≤ y % 8 ∧ y % 8 = 0 := by rw [hy]; unfold wideF; split <;> omega
  have hyp : y / 64 % 512 = p := by rw [hy]; unfold wideF; split <;> omega
  have hyw : y / 8 % 8 = w := by rw [hy]; unfold wideF; split <;> omega
  rw [← hy]
  have m7 : IntKind.u64.wrap (y + 7) = y + 7 := by rw [wrap_u64]; omega
  rw [m7, page (y + 7), word]
  have q7 : (y + 7) / 64 % 512 = p := by omega
  have v7 : (y + 7) / 8 % 8 = w := by omega
  rw [q7, v7]
  by_cases h7 : w = 7
  · rw [if_pos h7, if_pos h7]
    by_cases h255 : p = 255
    · subst h7 h255
      have hyv : y = 16376 := by rw [hy]; decide
      subst hyv
      decide +kernel
    · have hb : (p == 255) = false := by simp [h255]
      rw [hb]
      have en : IntKind.u64.wrap (y + 8) = wideF (64 * ((p + 1) % 512) + 8 * (0 % 8)) := by
        rw [wrap_u64, hy]; unfold wideF
        split <;> split <;> omega
      rw [en]
      simp [h7]
  · rw [if_neg h7, if_neg h7]
    have en : IntKind.u64.wrap (y + 8) = wideF (64 * (p % 512) + 8 * ((w + 1) % 8)) := by
      rw [wrap_u64, hy]; unfold wideF
      split <;> split <;> omega
    rw [en]
    simp

end Go.Proofs.Ytgnjmbmbdapkoaa.Pure
