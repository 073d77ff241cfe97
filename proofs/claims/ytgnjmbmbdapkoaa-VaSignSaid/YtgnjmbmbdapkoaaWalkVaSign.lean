/- Layer 5: the walk of VaSign over its callees' contracts; for every input. -/
import Derived.Test.YtgnjmbmbdapkoaaPureVaBack
namespace Go.Proofs.Ytgnjmbmbdapkoaa.SignWalk
open Go.RowKit Go.Proofs.Ytgnjmbmbdapkoaa.PVaBack Go.Proofs.YtgnjmbmbdapkoaaW.PrintWords Go.Proofs.YtgnjmbmbdapkoaaW.PrintLast Go.Proofs.YtgnjmbmbdapkoaaW.PrintMore Go.Proofs.Ytgnjmbmbdapkoaa.Arith
open Go.Proofs.Ytgnjmbmbdapkoaa.Pure.LVaBack

theorem hd (w : World) : Calls Try.prog 9 #[] w fun e w' => e = .returned (.bool true) ∧ Drawn0 w w' := silhouettelaw05_head.calls true w head

set_option maxHeartbeats 8000000 in
set_option maxRecDepth 100000 in
theorem way (a0 a1 k s pg : Int) (w : World) (c : Bool)
    (hk : wrap64 (14 + Int.tmod (wrap64 a1) 50) = k) (h0 : 0 ≤ k) (h1 : k ≤ 63)
    (hs : IntKind.u64.wrap (2 ^ k.toNat) = s)
    (C1 : Aside0 (va_Canon.f (Int.tmod a0 16384) = some true))
    (C2 : Aside0 (va_Canon.f (IntKind.u64.wrap ((Int.tmod a0 16384) + 18446744073709535232)) = some true))
    (C3 : Aside0 (va_Canon.f (Go.bits .xor .u64 (Int.tmod a0 16384) s) = some false))
    (C4 : Aside0 (va_Canon.f (Go.bits .xor .u64 (IntKind.u64.wrap ((Int.tmod a0 16384) + 18446744073709535232)) s) = some false))
    (C5 : Aside0 (va_Page.f (Int.tmod a0 16384) = some pg))
    (C6 : Aside0 (va_Page.f (Go.bits .xor .u64 (Int.tmod a0 16384) 32768) = some pg))
    (C7 : Aside0 (va_Canon.f a0 = some c)) (d1 d2 : Bool) (e1 : (a0 == Int.tmod a0 16384) = d1)
    (e2 : (a0 == IntKind.u64.wrap ((Int.tmod a0 16384) + 18446744073709535232)) = d2) (hc : c = (d1 || d2)) :
    Calls Try.prog 6 #[.int .u64 a0, .int .u8 a1] w fun e w' => e = .returned (.bool true) ∧ Drawn0 w w' := by
  have e0 : (pg == pg) = true := by simp
  subst hc
  cases d1 <;> cases d2
  all_goals
    go_enter Try.func6, Try.ntmps6
    go_wp2_with fail
    refine (hd _).mono ?_; rintro e w' ⟨rfl, ⟨nd, rfl⟩⟩
    go_wp2_with fail
    refine (va_Canon.calls _ true _ C1.out).mono ?_; rintro e w' ⟨rfl, ⟨nd, rfl⟩⟩
    go_wp2_with fail
    refine (va_Canon.calls _ true _ C2.out).mono ?_; rintro e w' ⟨rfl, ⟨nd, rfl⟩⟩
    go_wp2_with fail
    refine (va_Canon.calls _ false _ C3.out).mono ?_; rintro e w' ⟨rfl, ⟨nd, rfl⟩⟩
    go_wp2_with fail
    refine (va_Canon.calls _ false _ C4.out).mono ?_; rintro e w' ⟨rfl, ⟨nd, rfl⟩⟩
    go_wp2_with fail
    refine (va_Page.calls _ pg _ C5.out).mono ?_; rintro e w' ⟨rfl, ⟨nd, rfl⟩⟩
    go_wp2_with fail
    refine (va_Page.calls _ pg _ C6.out).mono ?_; rintro e w' ⟨rfl, ⟨nd, rfl⟩⟩
    go_wp2_with fail
    refine (va_Canon.calls _ _ _ C7.out).mono ?_; rintro e w' ⟨rfl, ⟨nd, rfl⟩⟩
    go_wp2_with fail
    go_ret
    exact ⟨by first | rfl | (simp [*]; done), by repeat (first | exact Drawn0.refl _ | apply Drawn0.step)⟩

theorem sign (a : Int) (h0 : 0 ≤ a) (h1 : a < 18446744073709551616) : va_Canon.f a = some (decide (a / 16384 = 0 ∨ a / 16384 = 1125899906842623)) := by
  rw [canon a h0 h1]; congr 1
  have e : wideF a = a ↔ (a / 16384 = 0 ∨ a / 16384 = 1125899906842623) := by
    unfold wideF; split <;> omega
  by_cases h : wideF a = a
  · rw [decide_eq_true (e.1 h)]; simp [h]
  · rw [decide_eq_false (fun k => h (e.2 k))]; simp [h]

theorem walk (a n : Int) (w : World) (wa : (Lit.int .u64 a).wf = true) (wn : (Lit.int .u8 n).wf = true) :
    Calls Try.prog 6 #[.int .u64 a, .int .u8 n] w fun e w' => e = .returned (.bool true) ∧ Below w.heap.size w w' := by
  have ba := wf_u64 wa
  have bn := wf_u8 wn
  have hk : wrap64 (14 + Int.tmod (wrap64 n) 50) = 14 + n % 50 := by
    rw [show wrap64 n = n from by unfold wrap64; omega, Int.tmod_eq_emod_of_nonneg bn.1]; unfold wrap64; omega
  obtain ⟨j, hj⟩ := Int.eq_ofNat_of_zero_le (show 0 ≤ n % 50 by omega)
  have hj50 : j < 50 := by omega
  obtain ⟨low, hlow0⟩ := Int.eq_ofNat_of_zero_le (show 0 ≤ a % 16384 by omega)
  have hlow : Int.tmod a 16384 = (low : Int) := by rw [Int.tmod_eq_emod_of_nonneg ba.1]; exact hlow0
  have hl : low < 2 ^ 14 := by omega
  have h64 : 2 ^ (14 + j) < 2 ^ 64 := Nat.pow_lt_pow_right (by decide) (by omega)
  have hsh : IntKind.u64.wrap (2 ^ (14 + n % 50).toNat) = ((2 ^ (14 + j) : Nat) : Int) := by
    rw [hj, show ((14 : Int) + ((j : Nat) : Int)).toNat = 14 + j from by omega, wrap_u64]
    have e : ((2 : Int) ^ (14 + j)) = ((2 ^ (14 + j) : Nat) : Int) := by simp
    rw [e]
    generalize 2 ^ (14 + j) = u at *
    omega
  have hhigh : IntKind.u64.wrap (Int.tmod a 16384 + 18446744073709535232) = ((low + 2 ^ 14 * 1125899906842623 : Nat) : Int) := by
    rw [wrap_u64, hlow]; omega
  have x1 : Go.bits .xor .u64 (Int.tmod a 16384) ((2 ^ (14 + j) : Nat) : Int) = ((low + 2 ^ 14 * 2 ^ j : Nat) : Int) := by
    rw [hlow, xor_u64 _ _ (by omega) h64]
    have := turned low 0 j hl
    rw [Nat.mul_zero, Nat.add_zero, Nat.zero_xor] at this
    rw [this]
  have x2 : Go.bits .xor .u64 (IntKind.u64.wrap (Int.tmod a 16384 + 18446744073709535232)) ((2 ^ (14 + j) : Nat) : Int) = ((low + 2 ^ 14 * (1125899906842623 ^^^ 2 ^ j) : Nat) : Int) := by
    rw [hhigh, xor_u64 _ _ (by omega) h64, turned low _ j hl]
  have x3 : Go.bits .xor .u64 (Int.tmod a 16384) 32768 = ((low + 32768 : Nat) : Int) := by
    rw [hlow, show (32768 : Int) = ((2 ^ (14 + 1) : Nat) : Int) from by decide, xor_u64 _ _ (by omega) (by decide)]
    have := turned low 0 1 hl
    rw [Nat.mul_zero, Nat.add_zero, Nat.zero_xor] at this
    rw [this]
  obtain ⟨t1, t2, t3, t4, t5⟩ := no_sign j hj50
  have t6 : 2 ^ j < 2 ^ 50 := Nat.pow_lt_pow_right (by decide) hj50
  have c1 : va_Canon.f (low : Int) = some true := by
    rw [sign _ (by omega) (by omega)]; congr 1; exact decide_eq_true (by omega)
  have c2 : va_Canon.f ((low + 2 ^ 14 * 1125899906842623 : Nat) : Int) = some true := by
    rw [sign _ (by omega) (by omega)]; congr 1; exact decide_eq_true (by omega)
  have c3 : va_Canon.f ((low + 2 ^ 14 * 2 ^ j : Nat) : Int) = some false := by
    generalize 2 ^ j = u at *
    rw [sign _ (by omega) (by omega)]; congr 1; exact decide_eq_false (by omega)
  have c4 : va_Canon.f ((low + 2 ^ 14 * (1125899906842623 ^^^ 2 ^ j) : Nat) : Int) = some false := by
    generalize (1125899906842623 ^^^ 2 ^ j) = v at *
    rw [sign _ (by omega) (by omega)]; congr 1; exact decide_eq_false (by omega)
  have c5 : (low : Int) / 64 % 512 = ((low + 32768 : Nat) : Int) / 64 % 512 := by omega
  have c7 := sign a ba.1 ba.2
  refine (way a n (14 + n % 50) ((2 ^ (14 + j) : Nat) : Int) ((low : Int) / 64 % 512) w (decide (a / 16384 = 0 ∨ a / 16384 = 1125899906842623)) hk (by omega) (by omega) hsh
    ⟨by rw [hlow]; exact c1⟩ ⟨by rw [hhigh]; exact c2⟩ ⟨by rw [x1]; exact c3⟩ ⟨by rw [x2]; exact c4⟩ ⟨by rw [hlow]; exact page _⟩ ⟨by rw [x3, c5]; exact page _⟩ ⟨c7⟩
    (a == (low : Int)) (a == ((low + 2 ^ 14 * 1125899906842623 : Nat) : Int)) (by rw [hlow]) (by rw [hhigh]) ?_).mono fun e w' h => ⟨h.1, h.2.below⟩
  by_cases q : a = (low : Int)
  · rw [beq_t q, decide_eq_true (by omega)]; rfl
  · rw [beq_f q]
    by_cases r : a = ((low + 2 ^ 14 * 1125899906842623 : Nat) : Int)
    · rw [beq_t r, decide_eq_true (by omega)]; rfl
    · rw [beq_f r, decide_eq_false (by omega)]; rfl

end Go.Proofs.Ytgnjmbmbdapkoaa.SignWalk
