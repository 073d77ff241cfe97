/- Layer 5: the walk of VaTables over its callees' contracts; for every input. -/
import Derived.Test.YtgnjmbmbdapkoaaPureVaBack
namespace Go.Proofs.Ytgnjmbmbdapkoaa.TablesWalk
open Go.RowKit Go.Proofs.Ytgnjmbmbdapkoaa.PVaBack Go.Proofs.YtgnjmbmbdapkoaaW.PrintWords Go.Proofs.YtgnjmbmbdapkoaaW.PrintLast Go.Proofs.YtgnjmbmbdapkoaaW.PrintMore Go.Proofs.Ytgnjmbmbdapkoaa.Arith
open Go.Proofs.Ytgnjmbmbdapkoaa.Pure.LVaBack

theorem idx (p l r : Int) (w : World) (h : va_Idx.f p l = some r) :
    Calls Try.prog 20 #[.int .i64 p, .int .i64 l] w fun e w' => e = .returned (.int .i64 r) ∧ Drawn0 w w' := va_Idx.calls p l r w h
theorem hd (w : World) : Calls Try.prog 9 #[] w fun e w' => e = .returned (.bool true) ∧ Drawn0 w w' := silhouettelaw05_head.calls true w head

set_option maxHeartbeats 8000000 in
set_option maxRecDepth 100000 in
theorem same (a0 a1 t3 t2 u2 t1 : Int) (w : World) (c : Bool)
    (A3 : Aside0 (va_Idx.f (wrap64 (Int.tmod a0 512)) 3 = some t3)) (B3 : Aside0 (va_Idx.f (wrap64 (Int.tmod a1 512)) 3 = some t3))
    (A2 : Aside0 (va_Idx.f (wrap64 (Int.tmod a0 512)) 2 = some t2)) (B2 : Aside0 (va_Idx.f (wrap64 (Int.tmod a1 512)) 2 = some u2))
    (A1 : Aside0 (va_Idx.f (wrap64 (Int.tmod a0 512)) 1 = some t1))
    (d2 : (t2 == u2) = c) (d8 : (wrap64 (Int.tdiv (wrap64 (Int.tmod a0 512)) 8) == wrap64 (Int.tdiv (wrap64 (Int.tmod a1 512)) 8)) = c)
    (d64 : (wrap64 (Int.tdiv (wrap64 (Int.tmod a0 512)) 64) == wrap64 (Int.tdiv (wrap64 (Int.tmod a1 512)) 64)) = true)
    (d1 : (t1 == Int.tmod (wrap64 (Int.tmod a0 512)) 8) = true) :
    Calls Try.prog 8 #[.int .u16 a0, .int .u16 a1] w fun e w' => e = .returned (.bool true) ∧ Drawn0 w w' := by
  have d3 : (t3 == t3) = true := by simp
  cases c
  all_goals
    go_enter Try.func8, Try.ntmps8
    go_wp2_with fail
    refine (hd _).mono ?_; rintro e w' ⟨rfl, ⟨nd, rfl⟩⟩
    go_wp2_with fail
    refine (idx _ _ t3 _ A3.out).mono ?_; rintro e w' ⟨rfl, ⟨nd, rfl⟩⟩
    go_wp2_with fail
    refine (idx _ _ t3 _ B3.out).mono ?_; rintro e w' ⟨rfl, ⟨nd, rfl⟩⟩
    go_wp2_with fail
    refine (idx _ _ t2 _ A2.out).mono ?_; rintro e w' ⟨rfl, ⟨nd, rfl⟩⟩
    go_wp2_with fail
    refine (idx _ _ u2 _ B2.out).mono ?_; rintro e w' ⟨rfl, ⟨nd, rfl⟩⟩
    go_wp2_with fail
    refine (idx _ _ t1 _ A1.out).mono ?_; rintro e w' ⟨rfl, ⟨nd, rfl⟩⟩
    go_wp2_with fail
    go_ret
    exact ⟨by first | rfl | (simp [*]; done), by repeat (first | exact Drawn0.refl _ | apply Drawn0.step)⟩

set_option maxHeartbeats 8000000 in
set_option maxRecDepth 100000 in
theorem other (a0 a1 t3 u3 t1 : Int) (w : World)
    (A3 : Aside0 (va_Idx.f (wrap64 (Int.tmod a0 512)) 3 = some t3)) (B3 : Aside0 (va_Idx.f (wrap64 (Int.tmod a1 512)) 3 = some u3))
    (A1 : Aside0 (va_Idx.f (wrap64 (Int.tmod a0 512)) 1 = some t1))
    (d3 : (t3 == u3) = false) (d8 : (wrap64 (Int.tdiv (wrap64 (Int.tmod a0 512)) 8) == wrap64 (Int.tdiv (wrap64 (Int.tmod a1 512)) 8)) = false)
    (d64 : (wrap64 (Int.tdiv (wrap64 (Int.tmod a0 512)) 64) == wrap64 (Int.tdiv (wrap64 (Int.tmod a1 512)) 64)) = false)
    (d1 : (t1 == Int.tmod (wrap64 (Int.tmod a0 512)) 8) = true) :
    Calls Try.prog 8 #[.int .u16 a0, .int .u16 a1] w fun e w' => e = .returned (.bool true) ∧ Drawn0 w w' := by
  go_enter Try.func8, Try.ntmps8
  go_wp2_with fail
  refine (hd _).mono ?_; rintro e w' ⟨rfl, ⟨nd, rfl⟩⟩
  go_wp2_with fail
  refine (idx _ _ t3 _ A3.out).mono ?_; rintro e w' ⟨rfl, ⟨nd, rfl⟩⟩
  go_wp2_with fail
  refine (idx _ _ u3 _ B3.out).mono ?_; rintro e w' ⟨rfl, ⟨nd, rfl⟩⟩
  go_wp2_with fail
  refine (idx _ _ t1 _ A1.out).mono ?_; rintro e w' ⟨rfl, ⟨nd, rfl⟩⟩
  go_wp2_with fail
  go_ret
  exact ⟨by first | rfl | (simp [*]; done), by repeat (first | exact Drawn0.refl _ | apply Drawn0.step)⟩

theorem walk (a0 a1 : Int) (w : World) (w0 : (Lit.int .u16 a0).wf = true) (w1 : (Lit.int .u16 a1).wf = true) :
    Calls Try.prog 8 #[.int .u16 a0, .int .u16 a1] w fun e w' => e = .returned (.bool true) ∧ Below w.heap.size w w' := by
  have b0 := wf_u16 w0
  have b1 := wf_u16 w1
  have e0 : wrap64 (Int.tmod a0 512) = a0 % 512 := by rw [Int.tmod_eq_emod_of_nonneg b0.1]; unfold wrap64; omega
  have e1 : wrap64 (Int.tmod a1 512) = a1 % 512 := by rw [Int.tmod_eq_emod_of_nonneg b1.1]; unfold wrap64; omega
  have hp : 0 ≤ a0 % 512 ∧ a0 % 512 < 512 := by omega
  have hq : 0 ≤ a1 % 512 ∧ a1 % 512 < 512 := by omega
  have f0 : wrap64 (Int.tdiv (wrap64 (Int.tmod a0 512)) 8) = a0 % 512 / 8 := by rw [e0, Int.tdiv_eq_ediv_of_nonneg hp.1]; unfold wrap64; omega
  have f1 : wrap64 (Int.tdiv (wrap64 (Int.tmod a1 512)) 8) = a1 % 512 / 8 := by rw [e1, Int.tdiv_eq_ediv_of_nonneg hq.1]; unfold wrap64; omega
  have g0 : wrap64 (Int.tdiv (wrap64 (Int.tmod a0 512)) 64) = a0 % 512 / 64 := by rw [e0, Int.tdiv_eq_ediv_of_nonneg hp.1]; unfold wrap64; omega
  have g1 : wrap64 (Int.tdiv (wrap64 (Int.tmod a1 512)) 64) = a1 % 512 / 64 := by rw [e1, Int.tdiv_eq_ediv_of_nonneg hq.1]; unfold wrap64; omega
  have d1 : (a0 % 512 % 8 == Int.tmod (wrap64 (Int.tmod a0 512)) 8) = true := by rw [e0, Int.tmod_eq_emod_of_nonneg hp.1]; simp
  have A3 : Aside0 (va_Idx.f (wrap64 (Int.tmod a0 512)) 3 = some (a0 % 512 / 64 % 8)) := ⟨by rw [e0]; exact idx3 _⟩
  have B3 : Aside0 (va_Idx.f (wrap64 (Int.tmod a1 512)) 3 = some (a1 % 512 / 64 % 8)) := ⟨by rw [e1]; exact idx3 _⟩
  have A2 : Aside0 (va_Idx.f (wrap64 (Int.tmod a0 512)) 2 = some (a0 % 512 / 8 % 8)) := ⟨by rw [e0]; exact idx2 _⟩
  have B2 : Aside0 (va_Idx.f (wrap64 (Int.tmod a1 512)) 2 = some (a1 % 512 / 8 % 8)) := ⟨by rw [e1]; exact idx2 _⟩
  have A1 : Aside0 (va_Idx.f (wrap64 (Int.tmod a0 512)) 1 = some (a0 % 512 % 8)) := ⟨by rw [e0]; exact idx1 _⟩
  by_cases h3 : a0 % 512 / 64 % 8 = a1 % 512 / 64 % 8
  · rw [← h3] at B3
    have k64 : (wrap64 (Int.tdiv (wrap64 (Int.tmod a0 512)) 64) == wrap64 (Int.tdiv (wrap64 (Int.tmod a1 512)) 64)) = true := by rw [g0, g1]; exact beq_t (by omega)
    by_cases h2 : a0 % 512 / 8 % 8 = a1 % 512 / 8 % 8
    · have k8 : (wrap64 (Int.tdiv (wrap64 (Int.tmod a0 512)) 8) == wrap64 (Int.tdiv (wrap64 (Int.tmod a1 512)) 8)) = true := by rw [f0, f1]; exact beq_t (by omega)
      exact (same a0 a1 _ _ _ _ w true A3 B3 A2 B2 A1 (beq_t h2) k8 k64 d1).mono fun e w' h => ⟨h.1, h.2.below⟩
    · have k8 : (wrap64 (Int.tdiv (wrap64 (Int.tmod a0 512)) 8) == wrap64 (Int.tdiv (wrap64 (Int.tmod a1 512)) 8)) = false := by rw [f0, f1]; exact beq_f (by omega)
      exact (same a0 a1 _ _ _ _ w false A3 B3 A2 B2 A1 (beq_f h2) k8 k64 d1).mono fun e w' h => ⟨h.1, h.2.below⟩
  · have k64 : (wrap64 (Int.tdiv (wrap64 (Int.tmod a0 512)) 64) == wrap64 (Int.tdiv (wrap64 (Int.tmod a1 512)) 64)) = false := by rw [g0, g1]; exact beq_f (by omega)
    have k8 : (wrap64 (Int.tdiv (wrap64 (Int.tmod a0 512)) 8) == wrap64 (Int.tdiv (wrap64 (Int.tmod a1 512)) 8)) = false := by rw [f0, f1]; exact beq_f (by omega)
    exact (other a0 a1 _ _ _ w A3 B3 A1 (beq_f h3) k8 k64 d1).mono fun e w' h => ⟨h.1, h.2.below⟩

end Go.Proofs.Ytgnjmbmbdapkoaa.TablesWalk
