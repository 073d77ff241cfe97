/- Layer 5, the statement VaBack over numbers alone: a canonical, aligned address is that of its page and word, and no other one is; a page and a word are of their address; for every input, no condition. -/
import Derived.Test.YtgnjmbmbdapkoaaPVaBackx1
import Derived.Test.YtgnjmbmbdapkoaaArith
namespace Go.Proofs.Ytgnjmbmbdapkoaa.Pure
open Go.RowKit Go.Proofs.Ytgnjmbmbdapkoaa.PVaBack Go.Proofs.YtgnjmbmbdapkoaaW.PrintWords Go.Proofs.YtgnjmbmbdapkoaaW.PrintLast Go.Proofs.YtgnjmbmbdapkoaaW.PrintMore Go.Proofs.Ytgnjmbmbdapkoaa.Arith
namespace LVaBack
theorem wide (a : Int) (h0 : 0 ≤ a) (h1 : a < 18446744073709551616) : va_wide.f a = some (wideF a) := by
  unfold va_wide.f; rw [wide_eq a h0 h1]
theorem canon (a : Int) (h0 : 0 ≤ a) (h1 : a < 18446744073709551616) : va_Canon.f a = some (wideF a == a) := by
  unfold va_Canon.f; rw [wide a h0 h1]; rfl
theorem cut03 (a : Int) : va_cut_uint64.f a 0 3 = some (a % 8) := by
  unfold va_cut_uint64.f
  rw [if_pos (by decide), if_pos (by decide), shl1_3, shr_0, show IntKind.u64.wrap (8 - 1) = 7 from by decide, and7_u64]
  congr 1; unfold wrap64; omega
theorem cut69 (a : Int) : va_cut_uint64.f a 6 9 = some (a / 64 % 512) := by
  unfold va_cut_uint64.f
  rw [if_pos (by decide), if_pos (by decide), shl1_9, shr_6, show IntKind.u64.wrap (512 - 1) = 511 from by decide, and511_u64]
  congr 1; unfold wrap64; omega
theorem cut33 (a : Int) : va_cut_uint64.f a 3 3 = some (a / 8 % 8) := by
  unfold va_cut_uint64.f
  rw [if_pos (by decide), if_pos (by decide), shl1_3, shr_3, show IntKind.u64.wrap (8 - 1) = 7 from by decide, and7_u64]
  congr 1; unfold wrap64; omega
theorem aligned (a : Int) : va_Aligned.f a = some (a % 8 == 0) := by unfold va_Aligned.f; rw [cut03]; rfl
theorem page (a : Int) : va_Page.f a = some (a / 64 % 512) := by unfold va_Page.f; rw [cut69]; rfl
theorem word (a : Int) : va_Word.f a = some (a / 8 % 8) := by unfold va_Word.f; rw [cut33]; rfl
theorem cuti09 (a : Int) : va_cut_int.f a 0 9 = some (a % 512) := by
  unfold va_cut_int.f
  rw [if_pos (by decide), if_pos (by decide), shli1_9, shr_0, show wrap64 (512 - 1) = 511 from by (unfold wrap64; omega), and511_i64]
theorem cuti03 (a : Int) : va_cut_int.f a 0 3 = some (a % 8) := by
  unfold va_cut_int.f
  rw [if_pos (by decide), if_pos (by decide), shli1_3, shr_0, show wrap64 (8 - 1) = 7 from by (unfold wrap64; omega), and7_i64]
theorem cuti33 (a : Int) : va_cut_int.f a 3 3 = some (a / 8 % 8) := by
  unfold va_cut_int.f
  rw [if_pos (by decide), if_pos (by decide), shli1_3, shri_3, show wrap64 (8 - 1) = 7 from by (unfold wrap64; omega), and7_i64]
theorem cuti63 (a : Int) : va_cut_int.f a 6 3 = some (a / 64 % 8) := by
  unfold va_cut_int.f
  rw [if_pos (by decide), if_pos (by decide), shli1_3, shri_6, show wrap64 (8 - 1) = 7 from by (unfold wrap64; omega), and7_i64]
theorem join (p w : Int) : va_Join.f p w = some (wideF (64 * (p % 512) + 8 * (w % 8))) := by
  unfold va_Join.f
  rw [cuti09, cuti03]
  simp only [Option.bind_some]
  rw [show wrap64 (p % 512 * 64) = p % 512 * 64 from by unfold wrap64; omega, show wrap64 (w % 8 * 8) = w % 8 * 8 from by unfold wrap64; omega,
    or_i64 _ _ (by omega) (by omega) (by omega) (by omega) (by omega), wrap_u64,
    show (p % 512 * 64 + w % 8 * 8) % 18446744073709551616 = 64 * (p % 512) + 8 * (w % 8) from by omega, wide _ (by omega) (by omega)]
  rfl
theorem idx1 (p : Int) : va_Idx.f p 1 = some (p % 8) := by
  unfold va_Idx.f
  rw [if_neg (by decide), if_neg (by decide), show wrap64 (wrap64 (1 - 1) * 3) = 0 from by (unfold wrap64; omega), cuti03]; rfl
theorem idx2 (p : Int) : va_Idx.f p 2 = some (p / 8 % 8) := by
  unfold va_Idx.f
  rw [if_neg (by decide), if_neg (by decide), show wrap64 (wrap64 (2 - 1) * 3) = 3 from by (unfold wrap64; omega), cuti33]; rfl
theorem idx3 (p : Int) : va_Idx.f p 3 = some (p / 64 % 8) := by
  unfold va_Idx.f
  rw [if_neg (by decide), if_neg (by decide), show wrap64 (wrap64 (3 - 1) * 3) = 6 from by (unfold wrap64; omega), cuti63]; rfl
theorem idx0 (p l : Int) (h : l < 1 ∨ l > 3) : va_Idx.f p l = some 0 := by
  unfold va_Idx.f
  by_cases h1 : l < 1
  · rw [if_pos h1]
  · rw [if_neg h1, if_pos (by omega)]
set_option maxRecDepth 100000 in
theorem head : silhouettelaw05_head.f = some true := by decide +kernel
end LVaBack
open LVaBack

theorem VaBack : silhouettelaw05_VaBack.Pure := by
  intro a p w wa wp ww
  have ba := wf_u64 wa
  have bp := wf_u16 wp
  have bw := wf_u8 ww
  unfold silhouettelaw05_VaBack.f
  have e0 : wrap64 (Int.tmod p 512) = p % 512 := by rw [Int.tmod_eq_emod_of_nonneg bp.1]; unfold wrap64; omega
  have e1 : wrap64 (Int.tmod w 8) = w % 8 := by rw [Int.tmod_eq_emod_of_nonneg bw.1]; unfold wrap64; omega
  rw [head, e0, e1]
  have hp : 0 ≤ p % 512 ∧ p % 512 < 512 := by omega
  have hw : 0 ≤ w % 8 ∧ w % 8 < 8 := by omega
  generalize p % 512 = p at *
  generalize w % 8 = w at *
  rw [Option.bind_some, page, Option.bind_some, word, Option.bind_some, join, Option.bind_some, join, Option.bind_some, if_pos rfl, canon a ba.1 ba.2, Option.bind_some, aligned]
  have k : 64 * (p % 512) + 8 * (w % 8) = 64 * p + 8 * w := by omega
  have k2 : a / 64 % 512 % 512 = a / 64 % 512 := by omega
  have k3 : a / 8 % 8 % 8 = a / 8 % 8 := by omega
  rw [k, k2, k3]
  obtain ⟨y, hy⟩ : ∃ y, y = wideF (64 * p + 8 * w) := ⟨_, rfl⟩
  have hy0 : 0 ≤ y ∧ y < 18446744073709551616 := by rw [hy]; exact wideF_lt _
  have hyp : y / 64 % 512 = p := by rw [hy]; exact wideF_page p w hp hw
  have hyw : y / 8 % 8 = w := by rw [hy]; exact wideF_word p w hp hw
  have hyc : wideF y = y := by rw [hy]; exact wideF_idem _
  have hya : y % 8 = 0 := by rw [hy]; exact wideF_8 p w
  rw [← hy, page, word, canon y hy0.1 hy0.2, aligned]
  simp only [Option.bind_some]
  obtain ⟨x, hx⟩ : ∃ x, x = wideF (64 * (a / 64 % 512) + 8 * (a / 8 % 8)) := ⟨_, rfl⟩
  rw [← hx]
  have hxa : x = a ↔ (wideF a = a ∧ a % 8 = 0) := by rw [hx]; exact wideF_back a ba.1 ba.2
  rw [hyp, hyw, beq_t hyc, beq_t hya]
  simp only [if_true]
  by_cases h1 : wideF a = a
  · rw [beq_t h1]
    by_cases h2 : a % 8 = 0
    · rw [beq_t h2, beq_t (hxa.2 ⟨h1, h2⟩)]; rfl
    · rw [beq_f h2, beq_f (fun h => h2 (hxa.1 h).2)]; rfl
  · rw [beq_f h1, beq_f (fun h => h1 (hxa.1 h).1)]; rfl

end Go.Proofs.Ytgnjmbmbdapkoaa.Pure
