-- PRINTED BY print.sh 35421559b90ae4d0a3588c463048766b98c2df88dd9212a6774a882060cdf62d: not written by this session
import Derived.Test.YtgnjmbmbdapkoaaPVaBackx0
namespace Go.Proofs.Ytgnjmbmbdapkoaa.PVaBack
open Go.RowKit Go.Proofs.YtgnjmbmbdapkoaaW.PrintWords Go.Proofs.YtgnjmbmbdapkoaaW.PrintLast Go.Proofs.YtgnjmbmbdapkoaaW.PrintMore
attribute [local go_sem] max2_int min2_int max_two min_two max_three min_three max_four min_four   -- for this text's walks alone
set_option linter.unusedVariables false
set_option linter.unusedSimpArgs false

/-! ### va_wide: function 22 -/
def va_wide.f (a0 : Int) : Option (Int) := some (IntKind.u64.wrap ((wrap64 (IntKind.u64.wrap (a0 * 562949953421312))) / 562949953421312))
set_option maxHeartbeats 8000000 in
set_option maxRecDepth 100000 in
theorem va_wide.calls (a0 : Int) (r : Int) (w : World) (h : va_wide.f a0 = some r) :
    Calls Try.prog 22 #[.int .u64 a0] w fun e w' => e = .returned (.int .u64 r) ∧ Drawn0 w w' := by
  have H : (some (IntKind.u64.wrap ((wrap64 (IntKind.u64.wrap (a0 * 562949953421312))) / 562949953421312))) = some r := h
  clear h
  obtain rfl := Option.some.inj H
  go_enter Try.func22, Try.ntmps22
  go_wp2
  go_ret
  exact ⟨by first | rfl | (simp; done) | (simp [*]; done), by repeat (first | exact Drawn0.refl _ | apply Drawn0.step)⟩

/-! ### va_Canon: function 10 -/
def va_Canon.f (a0 : Int) : Option (Bool) := (va_wide.f a0).bind fun t101 => (some (t101 == a0))
set_option maxHeartbeats 8000000 in
set_option maxRecDepth 100000 in
theorem va_Canon.calls (a0 : Int) (r : Bool) (w : World) (h : va_Canon.f a0 = some r) :
    Calls Try.prog 10 #[.int .u64 a0] w fun e w' => e = .returned (.bool r) ∧ Drawn0 w w' := by
  have H : ((va_wide.f a0).bind fun t101 => (some (t101 == a0))) = some r := h
  clear h
  replace H := Option.bind_eq_some_iff.mp H
  obtain ⟨t101, A20, H⟩ := H
  replace H : (some (t101 == a0)) = some r := H
  have A2 := Aside0.mk A20
  clear A20
  obtain rfl := Option.some.inj H
  go_enter Try.func10, Try.ntmps10
  go_wp2_with (first | ((with_reducible refine gate_callee (f := 22) rfl ?_); refine goesL_ (some 4) rfl rfl Try.func22 (by kernel_rfl) rfl #[.int .u64 a0] rfl (by (try simp only [List.map_toArray, List.map_cons, List.map_nil]); first | done | rfl | (simp only [List.length_drop, List.length_take]; rfl)) ?_; (with_reducible refine (va_wide.calls a0 t101 _ A2.out).mono ?_); rintro e w' ⟨rfl, ⟨nd, rfl⟩⟩; refine ⟨_, rfl, ?_⟩))
  go_ret
  exact ⟨by first | rfl | (simp; done) | (simp [*]; done), by repeat (first | exact Drawn0.refl _ | apply Drawn0.step)⟩

/-! ### va_cut_uint64: function 23 -/
def va_cut_uint64.f (a0 : Int) (a1 : Int) (a2 : Int) : Option (Int) := if 0 ≤ a1 then (if 0 ≤ a2 then (some (wrap64 (Go.bits .and .u64 (shr .u64 a0 a1) (IntKind.u64.wrap ((shl .u64 1 a2) - 1))))) else (none)) else (none)
set_option maxHeartbeats 8000000 in
set_option maxRecDepth 100000 in
theorem va_cut_uint64.calls (a0 : Int) (a1 : Int) (a2 : Int) (r : Int) (w : World) (h : va_cut_uint64.f a0 a1 a2 = some r) :
    Calls Try.prog 23 #[.int .u64 a0, .int .i64 a1, .int .i64 a2] w fun e w' => e = .returned (.int .i64 r) ∧ Drawn0 w w' := by
  have H : (if 0 ≤ a1 then (if 0 ≤ a2 then (some (wrap64 (Go.bits .and .u64 (shr .u64 a0 a1) (IntKind.u64.wrap ((shl .u64 1 a2) - 1))))) else (none)) else (none)) = some r := h
  clear h
  by_cases c4 : 0 ≤ a1
  · rw [if_pos c4] at H
    have c4b0 := eq_true c4
    have c4b1 : decide (0 ≤ a1) = true := decide_eq_true c4
    clear c4
    obtain ⟨ji5, hji5⟩ : ∃ j_ : Int, (shr .u64 a0 a1) = j_ := ⟨_, rfl⟩
    replace H : (if 0 ≤ a2 then (some (wrap64 (Go.bits .and .u64 (ji5) (IntKind.u64.wrap ((shl .u64 1 a2) - 1))))) else (none)) = some r := by first | (rw [hji5] at H; exact H) | (simp only [hji5] at H ⊢; exact H)
    have hji5_ : (a0 / 2 ^ min a1.toNat 64) = ji5 := hji5
    have hji5z : a1 ≤ 64 → (a0 / 2 ^ a1.toNat) = ji5 := shr_small hji5
    by_cases c6 : 0 ≤ a2
    · rw [if_pos c6] at H
      have c6b0 := eq_true c6
      have c6b1 : decide (0 ≤ a2) = true := decide_eq_true c6
      clear c6
      obtain ⟨ji7, hji7⟩ : ∃ j_ : Int, (shl .u64 1 a2) = j_ := ⟨_, rfl⟩
      replace H : (some (wrap64 (Go.bits .and .u64 (ji5) (IntKind.u64.wrap ((ji7) - 1))))) = some r := by first | (rw [hji7] at H; exact H) | (simp only [hji7] at H ⊢; exact H)
      have hji7_ : (IntKind.u64.wrap (1 * 2 ^ min a2.toNat 64)) = ji7 := hji7
      have hji7z : a2 ≤ 64 → (IntKind.u64.wrap (1 * 2 ^ a2.toNat)) = ji7 := shl_small hji7
      have hji7u : (IntKind.u64.wrap (2 ^ min a2.toNat 64)) = ji7 := by have h_ := hji7_; rw [Int.one_mul] at h_; exact h_
      have hji7v : a2 ≤ 64 → (IntKind.u64.wrap (2 ^ a2.toNat)) = ji7 := fun hle_ => by have h_ := hji7z hle_; rw [Int.one_mul] at h_; exact h_
      obtain rfl := Option.some.inj H
      go_enter Try.func23, Try.ntmps23
      go_wp2
      repeat (go_quiet (fail); try go_wp2)
      go_ret
      exact ⟨by first | rfl | (simp; done) | (simp only [← hji5, ← hji7] <;> (first | rfl | simp)) | (simp [*]; done), by repeat (first | exact Drawn0.refl _ | apply Drawn0.step)⟩
    · rw [if_neg c6] at H
      exact absurd H (by simp)
  · rw [if_neg c4] at H
    exact absurd H (by simp)

/-! ### va_Aligned: function 12 -/
def va_Aligned.f (a0 : Int) : Option (Bool) := (va_cut_uint64.f a0 0 3).bind fun t102 => (some (t102 == 0))
set_option maxHeartbeats 8000000 in
set_option maxRecDepth 100000 in
theorem va_Aligned.calls (a0 : Int) (r : Bool) (w : World) (h : va_Aligned.f a0 = some r) :
    Calls Try.prog 12 #[.int .u64 a0] w fun e w' => e = .returned (.bool r) ∧ Drawn0 w w' := by
  have H : ((va_cut_uint64.f a0 0 3).bind fun t102 => (some (t102 == 0))) = some r := h
  clear h
  replace H := Option.bind_eq_some_iff.mp H
  obtain ⟨t102, A20, H⟩ := H
  replace H : (some (t102 == 0)) = some r := H
  have A2 := Aside0.mk A20
  clear A20
  obtain rfl := Option.some.inj H
  go_enter Try.func12, Try.ntmps12
  go_wp2_with (first | ((with_reducible refine gate_callee (f := 23) rfl ?_); refine goesL_ (some 4) rfl rfl Try.func23 (by kernel_rfl) rfl #[.int .u64 a0, .int .i64 0, .int .i64 3] rfl (by (try simp only [List.map_toArray, List.map_cons, List.map_nil]); first | done | rfl | (simp only [List.length_drop, List.length_take]; rfl)) ?_; (with_reducible refine (va_cut_uint64.calls a0 0 3 t102 _ A2.out).mono ?_); rintro e w' ⟨rfl, ⟨nd, rfl⟩⟩; refine ⟨_, rfl, ?_⟩))
  go_ret
  exact ⟨by first | rfl | (simp; done) | (simp [*]; done), by repeat (first | exact Drawn0.refl _ | apply Drawn0.step)⟩

/-! ### va_Page: function 14 -/
def va_Page.f (a0 : Int) : Option (Int) := (va_cut_uint64.f a0 6 9).bind fun t103 => (some t103)
set_option maxHeartbeats 8000000 in
set_option maxRecDepth 100000 in
theorem va_Page.calls (a0 : Int) (r : Int) (w : World) (h : va_Page.f a0 = some r) :
    Calls Try.prog 14 #[.int .u64 a0] w fun e w' => e = .returned (.int .i64 r) ∧ Drawn0 w w' := by
  have H : ((va_cut_uint64.f a0 6 9).bind fun t103 => (some t103)) = some r := h
  clear h
  replace H := Option.bind_eq_some_iff.mp H
  obtain ⟨t103, A20, H⟩ := H
  replace H : (some t103) = some r := H
  have A2 := Aside0.mk A20
  clear A20
  obtain rfl := Option.some.inj H
  go_enter Try.func14, Try.ntmps14
  go_wp2_with (first | ((with_reducible refine gate_callee (f := 23) rfl ?_); refine goesL_ (some 4) rfl rfl Try.func23 (by kernel_rfl) rfl #[.int .u64 a0, .int .i64 6, .int .i64 9] rfl (by (try simp only [List.map_toArray, List.map_cons, List.map_nil]); first | done | rfl | (simp only [List.length_drop, List.length_take]; rfl)) ?_; (with_reducible refine (va_cut_uint64.calls a0 6 9 t103 _ A2.out).mono ?_); rintro e w' ⟨rfl, ⟨nd, rfl⟩⟩; refine ⟨_, rfl, ?_⟩))
  go_ret
  exact ⟨by first | rfl | (simp; done) | (simp [*]; done), by repeat (first | exact Drawn0.refl _ | apply Drawn0.step)⟩

/-! ### va_Word: function 16 -/
def va_Word.f (a0 : Int) : Option (Int) := (va_cut_uint64.f a0 3 3).bind fun t104 => (some t104)
set_option maxHeartbeats 8000000 in
set_option maxRecDepth 100000 in
theorem va_Word.calls (a0 : Int) (r : Int) (w : World) (h : va_Word.f a0 = some r) :
    Calls Try.prog 16 #[.int .u64 a0] w fun e w' => e = .returned (.int .i64 r) ∧ Drawn0 w w' := by
  have H : ((va_cut_uint64.f a0 3 3).bind fun t104 => (some t104)) = some r := h
  clear h
  replace H := Option.bind_eq_some_iff.mp H
  obtain ⟨t104, A20, H⟩ := H
  replace H : (some t104) = some r := H
  have A2 := Aside0.mk A20
  clear A20
  obtain rfl := Option.some.inj H
  go_enter Try.func16, Try.ntmps16
  go_wp2_with (first | ((with_reducible refine gate_callee (f := 23) rfl ?_); refine goesL_ (some 4) rfl rfl Try.func23 (by kernel_rfl) rfl #[.int .u64 a0, .int .i64 3, .int .i64 3] rfl (by (try simp only [List.map_toArray, List.map_cons, List.map_nil]); first | done | rfl | (simp only [List.length_drop, List.length_take]; rfl)) ?_; (with_reducible refine (va_cut_uint64.calls a0 3 3 t104 _ A2.out).mono ?_); rintro e w' ⟨rfl, ⟨nd, rfl⟩⟩; refine ⟨_, rfl, ?_⟩))
  go_ret
  exact ⟨by first | rfl | (simp; done) | (simp [*]; done), by repeat (first | exact Drawn0.refl _ | apply Drawn0.step)⟩

/-! ### va_cut_int: function 24 -/
def va_cut_int.f (a0 : Int) (a1 : Int) (a2 : Int) : Option (Int) := if 0 ≤ a1 then (if 0 ≤ a2 then (some (Go.bits .and .i64 (shr .i64 a0 a1) (wrap64 ((shl .i64 1 a2) - 1)))) else (none)) else (none)
set_option maxHeartbeats 8000000 in
set_option maxRecDepth 100000 in
theorem va_cut_int.calls (a0 : Int) (a1 : Int) (a2 : Int) (r : Int) (w : World) (h : va_cut_int.f a0 a1 a2 = some r) :
    Calls Try.prog 24 #[.int .i64 a0, .int .i64 a1, .int .i64 a2] w fun e w' => e = .returned (.int .i64 r) ∧ Drawn0 w w' := by
  have H : (if 0 ≤ a1 then (if 0 ≤ a2 then (some (Go.bits .and .i64 (shr .i64 a0 a1) (wrap64 ((shl .i64 1 a2) - 1)))) else (none)) else (none)) = some r := h
  clear h
  by_cases c4 : 0 ≤ a1
  · rw [if_pos c4] at H
    have c4b0 := eq_true c4
    have c4b1 : decide (0 ≤ a1) = true := decide_eq_true c4
    clear c4
    obtain ⟨ji5, hji5⟩ : ∃ j_ : Int, (shr .i64 a0 a1) = j_ := ⟨_, rfl⟩
    replace H : (if 0 ≤ a2 then (some (Go.bits .and .i64 (ji5) (wrap64 ((shl .i64 1 a2) - 1)))) else (none)) = some r := by first | (rw [hji5] at H; exact H) | (simp only [hji5] at H ⊢; exact H)
    have hji5_ : (a0 / 2 ^ min a1.toNat 64) = ji5 := hji5
    have hji5z : a1 ≤ 64 → (a0 / 2 ^ a1.toNat) = ji5 := shr_small hji5
    by_cases c6 : 0 ≤ a2
    · rw [if_pos c6] at H
      have c6b0 := eq_true c6
      have c6b1 : decide (0 ≤ a2) = true := decide_eq_true c6
      clear c6
      obtain ⟨ji7, hji7⟩ : ∃ j_ : Int, (shl .i64 1 a2) = j_ := ⟨_, rfl⟩
      replace H : (some (Go.bits .and .i64 (ji5) (wrap64 ((ji7) - 1)))) = some r := by first | (rw [hji7] at H; exact H) | (simp only [hji7] at H ⊢; exact H)
      have hji7_ : (IntKind.i64.wrap (1 * 2 ^ min a2.toNat 64)) = ji7 := hji7
      have hji7z : a2 ≤ 64 → (IntKind.i64.wrap (1 * 2 ^ a2.toNat)) = ji7 := shl_small hji7
      have hji7u : (IntKind.i64.wrap (2 ^ min a2.toNat 64)) = ji7 := by have h_ := hji7_; rw [Int.one_mul] at h_; exact h_
      have hji7v : a2 ≤ 64 → (IntKind.i64.wrap (2 ^ a2.toNat)) = ji7 := fun hle_ => by have h_ := hji7z hle_; rw [Int.one_mul] at h_; exact h_
      have hji7y : (wrap64 (1 * 2 ^ min a2.toNat 64)) = ji7 := (i64_w _).symm.trans hji7_
      have hji7x : a2 ≤ 64 → (wrap64 (1 * 2 ^ a2.toNat)) = ji7 := fun h_ => (i64_w _).symm.trans (hji7z h_)
      obtain rfl := Option.some.inj H
      go_enter Try.func24, Try.ntmps24
      go_wp2
      repeat (go_quiet (fail); try go_wp2)
      go_ret
      exact ⟨by first | rfl | (simp; done) | (simp only [← hji5, ← hji7] <;> (first | rfl | simp)) | (simp [*]; done), by repeat (first | exact Drawn0.refl _ | apply Drawn0.step)⟩
    · rw [if_neg c6] at H
      exact absurd H (by simp)
  · rw [if_neg c4] at H
    exact absurd H (by simp)

/-! ### va_Join: function 18 -/
def va_Join.f (a0 : Int) (a1 : Int) : Option (Int) := (va_cut_int.f a0 0 9).bind fun t105 => ((va_cut_int.f a1 0 3).bind fun t106 => ((va_wide.f (IntKind.u64.wrap (Go.bits .or .i64 (wrap64 (t105 * 64)) (wrap64 (t106 * 8))))).bind fun t107 => (some t107)))
set_option maxHeartbeats 8000000 in
set_option maxRecDepth 100000 in
theorem va_Join.calls (a0 : Int) (a1 : Int) (r : Int) (w : World) (h : va_Join.f a0 a1 = some r) :
    Calls Try.prog 18 #[.int .i64 a0, .int .i64 a1] w fun e w' => e = .returned (.int .u64 r) ∧ Drawn0 w w' := by
  have H : ((va_cut_int.f a0 0 9).bind fun t105 => ((va_cut_int.f a1 0 3).bind fun t106 => ((va_wide.f (IntKind.u64.wrap (Go.bits .or .i64 (wrap64 (t105 * 64)) (wrap64 (t106 * 8))))).bind fun t107 => (some t107)))) = some r := h
  clear h
  replace H := Option.bind_eq_some_iff.mp H
  obtain ⟨t105, A30, H⟩ := H
  replace H : ((va_cut_int.f a1 0 3).bind fun t106 => ((va_wide.f (IntKind.u64.wrap (Go.bits .or .i64 (wrap64 (t105 * 64)) (wrap64 (t106 * 8))))).bind fun t107 => (some t107))) = some r := H
  have A3 := Aside0.mk A30
  clear A30
  replace H := Option.bind_eq_some_iff.mp H
  obtain ⟨t106, A40, H⟩ := H
  replace H : ((va_wide.f (IntKind.u64.wrap (Go.bits .or .i64 (wrap64 (t105 * 64)) (wrap64 (t106 * 8))))).bind fun t107 => (some t107)) = some r := H
  have A4 := Aside0.mk A40
  clear A40
  replace H := Option.bind_eq_some_iff.mp H
  obtain ⟨t107, A50, H⟩ := H
  replace H : (some t107) = some r := H
  have A5 := Aside0.mk A50
  clear A50
  obtain rfl := Option.some.inj H
  go_enter Try.func18, Try.ntmps18
  go_wp2_with (first | ((with_reducible refine gate_callee (f := 24) rfl ?_); refine goesL_ (some 8) rfl rfl Try.func24 (by kernel_rfl) rfl #[.int .i64 a0, .int .i64 0, .int .i64 9] rfl (by (try simp only [List.map_toArray, List.map_cons, List.map_nil]); first | done | rfl | (simp only [List.length_drop, List.length_take]; rfl)) ?_; (with_reducible refine (va_cut_int.calls a0 0 9 t105 _ A3.out).mono ?_); rintro e w' ⟨rfl, ⟨nd, rfl⟩⟩; refine ⟨_, rfl, ?_⟩) | ((with_reducible refine gate_callee (f := 24) rfl ?_); refine goesL_ (some 10) rfl rfl Try.func24 (by kernel_rfl) rfl #[.int .i64 a1, .int .i64 0, .int .i64 3] rfl (by (try simp only [List.map_toArray, List.map_cons, List.map_nil]); first | done | rfl | (simp only [List.length_drop, List.length_take]; rfl)) ?_; (with_reducible refine (va_cut_int.calls a1 0 3 t106 _ A4.out).mono ?_); rintro e w' ⟨rfl, ⟨nd, rfl⟩⟩; refine ⟨_, rfl, ?_⟩) | ((with_reducible refine gate_callee (f := 22) rfl ?_); refine goesL_ (some 17) rfl rfl Try.func22 (by kernel_rfl) rfl #[.int .u64 (IntKind.u64.wrap (Go.bits .or .i64 (wrap64 (t105 * 64)) (wrap64 (t106 * 8))))] rfl (by (try simp only [List.map_toArray, List.map_cons, List.map_nil]); first | done | rfl | (simp only [List.length_drop, List.length_take]; rfl)) ?_; (with_reducible refine (va_wide.calls (IntKind.u64.wrap (Go.bits .or .i64 (wrap64 (t105 * 64)) (wrap64 (t106 * 8)))) t107 _ A5.out).mono ?_); rintro e w' ⟨rfl, ⟨nd, rfl⟩⟩; refine ⟨_, rfl, ?_⟩))
  go_ret
  exact ⟨by first | rfl | (simp; done) | (simp [*]; done), by repeat (first | exact Drawn0.refl _ | apply Drawn0.step)⟩

/-! ### va_Idx: function 20 -/
def va_Idx.f (a0 : Int) (a1 : Int) : Option (Int) := if a1 < 1 then (some 0) else (if a1 > 3 then (some 0) else ((va_cut_int.f a0 (wrap64 ((wrap64 (a1 - 1)) * 3)) 3).bind fun t108 => (some t108)))
set_option maxHeartbeats 8000000 in
set_option maxRecDepth 100000 in
theorem va_Idx.calls (a0 : Int) (a1 : Int) (r : Int) (w : World) (h : va_Idx.f a0 a1 = some r) :
    Calls Try.prog 20 #[.int .i64 a0, .int .i64 a1] w fun e w' => e = .returned (.int .i64 r) ∧ Drawn0 w w' := by
  have H : (if a1 < 1 then (some 0) else (if a1 > 3 then (some 0) else ((va_cut_int.f a0 (wrap64 ((wrap64 (a1 - 1)) * 3)) 3).bind fun t108 => (some t108)))) = some r := h
  clear h
  by_cases c3 : a1 < 1
  · rw [if_pos c3] at H
    have c3b0 : decide (a1 < 1) = true := decide_eq_true c3
    clear c3
    obtain rfl := Option.some.inj H
    go_enter Try.func20, Try.ntmps20
    go_wp2
    go_ret
    exact ⟨by first | rfl | (simp; done) | (simp [*]; done), by repeat (first | exact Drawn0.refl _ | apply Drawn0.step)⟩
  · rw [if_neg c3] at H
    have c3b0 : decide (a1 < 1) = false := decide_eq_false c3
    clear c3
    by_cases c4 : a1 > 3
    · rw [if_pos c4] at H
      have c4b0 : decide (3 < a1) = true := decide_eq_true c4
      clear c4
      obtain rfl := Option.some.inj H
      go_enter Try.func20, Try.ntmps20
      go_wp2
      go_ret
      exact ⟨by first | rfl | (simp; done) | (simp [*]; done), by repeat (first | exact Drawn0.refl _ | apply Drawn0.step)⟩
    · rw [if_neg c4] at H
      have c4b0 : decide (3 < a1) = false := decide_eq_false c4
      clear c4
      replace H := Option.bind_eq_some_iff.mp H
      obtain ⟨t108, A50, H⟩ := H
      replace H : (some t108) = some r := H
      have A5 := Aside0.mk A50
      clear A50
      obtain rfl := Option.some.inj H
      go_enter Try.func20, Try.ntmps20
      go_wp2_with (first | ((with_reducible refine gate_callee (f := 24) rfl ?_); refine goesL_ (some 15) rfl rfl Try.func24 (by kernel_rfl) rfl #[.int .i64 a0, .int .i64 (wrap64 ((wrap64 (a1 - 1)) * 3)), .int .i64 3] rfl (by (try simp only [List.map_toArray, List.map_cons, List.map_nil]); first | done | rfl | (simp only [List.length_drop, List.length_take]; rfl)) ?_; (with_reducible refine (va_cut_int.calls a0 (wrap64 ((wrap64 (a1 - 1)) * 3)) 3 t108 _ A5.out).mono ?_); rintro e w' ⟨rfl, ⟨nd, rfl⟩⟩; refine ⟨_, rfl, ?_⟩))
      go_ret
      exact ⟨by first | rfl | (simp; done) | (simp [*]; done), by repeat (first | exact Drawn0.refl _ | apply Drawn0.step)⟩

/-! ### silhouettelaw05_head: function 9 -/
def silhouettelaw05_head.f  : Option (Bool) := (va_Join.f 300 5).bind fun t109 => ((va_Page.f t109).bind fun t110 => (if t110 = 300 then ((va_Word.f t109).bind fun t111 => (if t111 = 5 then ((va_Canon.f t109).bind fun t112 => (if t112 = true then ((va_Aligned.f t109).bind fun t113 => (if t113 = true then (if (t109 / 16384) = 1125899906842623 then ((va_Canon.f 16384).bind fun t114 => (if t114 = true then (some false) else ((va_Canon.f 32768).bind fun t115 => (if t115 = true then (some false) else ((va_Canon.f 16383).bind fun t116 => (if t116 = true then ((va_Aligned.f 4).bind fun t117 => (if t117 = true then (some false) else ((va_Idx.f 300 3).bind fun t118 => (if t118 = 4 then ((va_Idx.f 300 2).bind fun t119 => (if t119 = 5 then ((va_Idx.f 300 1).bind fun t120 => (if t120 = 4 then ((va_Idx.f 300 0).bind fun t121 => (if t121 = 0 then ((va_Join.f 3 1).bind fun t122 => (some (t122 == 200))) else (some false))) else (some false))) else (some false))) else (some false))))) else (some false))))))) else (some false)) else (some false))) else (some false))) else (some false))) else (some false)))
set_option maxHeartbeats 8000000 in
set_option maxRecDepth 100000 in
theorem silhouettelaw05_head.calls  (r : Bool) (w : World) (h : silhouettelaw05_head.f  = some r) :
    Calls Try.prog 9 #[] w fun e w' => e = .returned (.bool r) ∧ Drawn0 w w' := by
  have H : ((va_Join.f 300 5).bind fun t109 => ((va_Page.f t109).bind fun t110 => (if t110 = 300 then ((va_Word.f t109).bind fun t111 => (if t111 = 5 then ((va_Canon.f t109).bind fun t112 => (if t112 = true then ((va_Aligned.f t109).bind fun t113 => (if t113 = true then (if (t109 / 16384) = 1125899906842623 then ((va_Canon.f 16384).bind fun t114 => (if t114 = true then (some false) else ((va_Canon.f 32768).bind fun t115 => (if t115 = true then (some false) else ((va_Canon.f 16383).bind fun t116 => (if t116 = true then ((va_Aligned.f 4).bind fun t117 => (if t117 = true then (some false) else ((va_Idx.f 300 3).bind fun t118 => (if t118 = 4 then ((va_Idx.f 300 2).bind fun t119 => (if t119 = 5 then ((va_Idx.f 300 1).bind fun t120 => (if t120 = 4 then ((va_Idx.f 300 0).bind fun t121 => (if t121 = 0 then ((va_Join.f 3 1).bind fun t122 => (some (t122 == 200))) else (some false))) else (some false))) else (some false))) else (some false))))) else (some false))))))) else (some false)) else (some false))) else (some false))) else (some false))) else (some false)))) = some r := h
  clear h
  replace H := Option.bind_eq_some_iff.mp H
  obtain ⟨t109, A10, H⟩ := H
  replace H : ((va_Page.f t109).bind fun t110 => (if t110 = 300 then ((va_Word.f t109).bind fun t111 => (if t111 = 5 then ((va_Canon.f t109).bind fun t112 => (if t112 = true then ((va_Aligned.f t109).bind fun t113 => (if t113 = true then (if (t109 / 16384) = 1125899906842623 then ((va_Canon.f 16384).bind fun t114 => (if t114 = true then (some false) else ((va_Canon.f 32768).bind fun t115 => (if t115 = true then (some false) else ((va_Canon.f 16383).bind fun t116 => (if t116 = true then ((va_Aligned.f 4).bind fun t117 => (if t117 = true then (some false) else ((va_Idx.f 300 3).bind fun t118 => (if t118 = 4 then ((va_Idx.f 300 2).bind fun t119 => (if t119 = 5 then ((va_Idx.f 300 1).bind fun t120 => (if t120 = 4 then ((va_Idx.f 300 0).bind fun t121 => (if t121 = 0 then ((va_Join.f 3 1).bind fun t122 => (some (t122 == 200))) else (some false))) else (some false))) else (some false))) else (some false))))) else (some false))))))) else (some false)) else (some false))) else (some false))) else (some false))) else (some false))) = some r := H
  have A1 := Aside0.mk A10
  clear A10
  replace H := Option.bind_eq_some_iff.mp H
  obtain ⟨t110, A20, H⟩ := H
  replace H : (if t110 = 300 then ((va_Word.f t109).bind fun t111 => (if t111 = 5 then ((va_Canon.f t109).bind fun t112 => (if t112 = true then ((va_Aligned.f t109).bind fun t113 => (if t113 = true then (if (t109 / 16384) = 1125899906842623 then ((va_Canon.f 16384).bind fun t114 => (if t114 = true then (some false) else ((va_Canon.f 32768).bind fun t115 => (if t115 = true then (some false) else ((va_Canon.f 16383).bind fun t116 => (if t116 = true then ((va_Aligned.f 4).bind fun t117 => (if t117 = true then (some false) else ((va_Idx.f 300 3).bind fun t118 => (if t118 = 4 then ((va_Idx.f 300 2).bind fun t119 => (if t119 = 5 then ((va_Idx.f 300 1).bind fun t120 => (if t120 = 4 then ((va_Idx.f 300 0).bind fun t121 => (if t121 = 0 then ((va_Join.f 3 1).bind fun t122 => (some (t122 == 200))) else (some false))) else (some false))) else (some false))) else (some false))))) else (some false))))))) else (some false)) else (some false))) else (some false))) else (some false))) else (some false)) = some r := H
  have A2 := Aside0.mk A20
  clear A20
  by_cases c3 : t110 = 300
  · rw [if_pos c3] at H
    have c3b0 : (t110 == 300) = true := beq_iff_eq.mpr c3
    have c3b1 : (t110 != 300) = false := bne_eq_false_iff_eq.mpr c3
    clear c3
    replace H := Option.bind_eq_some_iff.mp H
    obtain ⟨t111, A40, H⟩ := H
    replace H : (if t111 = 5 then ((va_Canon.f t109).bind fun t112 => (if t112 = true then ((va_Aligned.f t109).bind fun t113 => (if t113 = true then (if (t109 / 16384) = 1125899906842623 then ((va_Canon.f 16384).bind fun t114 => (if t114 = true then (some false) else ((va_Canon.f 32768).bind fun t115 => (if t115 = true then (some false) else ((va_Canon.f 16383).bind fun t116 => (if t116 = true then ((va_Aligned.f 4).bind fun t117 => (if t117 = true then (some false) else ((va_Idx.f 300 3).bind fun t118 => (if t118 = 4 then ((va_Idx.f 300 2).bind fun t119 => (if t119 = 5 then ((va_Idx.f 300 1).bind fun t120 => (if t120 = 4 then ((va_Idx.f 300 0).bind fun t121 => (if t121 = 0 then ((va_Join.f 3 1).bind fun t122 => (some (t122 == 200))) else (some false))) else (some false))) else (some false))) else (some false))))) else (some false))))))) else (some false)) else (some false))) else (some false))) else (some false)) = some r := H
    have A4 := Aside0.mk A40
    clear A40
    by_cases c5 : t111 = 5
    · rw [if_pos c5] at H
      have c5b0 : (t111 == 5) = true := beq_iff_eq.mpr c5
      have c5b1 : (t111 != 5) = false := bne_eq_false_iff_eq.mpr c5
      clear c5
      replace H := Option.bind_eq_some_iff.mp H
      obtain ⟨t112, A60, H⟩ := H
      replace H : (if t112 = true then ((va_Aligned.f t109).bind fun t113 => (if t113 = true then (if (t109 / 16384) = 1125899906842623 then ((va_Canon.f 16384).bind fun t114 => (if t114 = true then (some false) else ((va_Canon.f 32768).bind fun t115 => (if t115 = true then (some false) else ((va_Canon.f 16383).bind fun t116 => (if t116 = true then ((va_Aligned.f 4).bind fun t117 => (if t117 = true then (some false) else ((va_Idx.f 300 3).bind fun t118 => (if t118 = 4 then ((va_Idx.f 300 2).bind fun t119 => (if t119 = 5 then ((va_Idx.f 300 1).bind fun t120 => (if t120 = 4 then ((va_Idx.f 300 0).bind fun t121 => (if t121 = 0 then ((va_Join.f 3 1).bind fun t122 => (some (t122 == 200))) else (some false))) else (some false))) else (some false))) else (some false))))) else (some false))))))) else (some false)) else (some false))) else (some false)) = some r := H
      have A6 := Aside0.mk A60
      clear A60
      by_cases c7 : t112 = true
      · subst c7
        have H1 : ((va_Aligned.f t109).bind fun t113 => (if t113 = true then (if (t109 / 16384) = 1125899906842623 then ((va_Canon.f 16384).bind fun t114 => (if t114 = true then (some false) else ((va_Canon.f 32768).bind fun t115 => (if t115 = true then (some false) else ((va_Canon.f 16383).bind fun t116 => (if t116 = true then ((va_Aligned.f 4).bind fun t117 => (if t117 = true then (some false) else ((va_Idx.f 300 3).bind fun t118 => (if t118 = 4 then ((va_Idx.f 300 2).bind fun t119 => (if t119 = 5 then ((va_Idx.f 300 1).bind fun t120 => (if t120 = 4 then ((va_Idx.f 300 0).bind fun t121 => (if t121 = 0 then ((va_Join.f 3 1).bind fun t122 => (some (t122 == 200))) else (some false))) else (some false))) else (some false))) else (some false))))) else (some false))))))) else (some false)) else (some false))) = some r := by rw [if_pos rfl] at H; exact H
        clear H
        have H := H1
        clear H1
        replace H := Option.bind_eq_some_iff.mp H
        obtain ⟨t113, A80, H⟩ := H
        replace H : (if t113 = true then (if (t109 / 16384) = 1125899906842623 then ((va_Canon.f 16384).bind fun t114 => (if t114 = true then (some false) else ((va_Canon.f 32768).bind fun t115 => (if t115 = true then (some false) else ((va_Canon.f 16383).bind fun t116 => (if t116 = true then ((va_Aligned.f 4).bind fun t117 => (if t117 = true then (some false) else ((va_Idx.f 300 3).bind fun t118 => (if t118 = 4 then ((va_Idx.f 300 2).bind fun t119 => (if t119 = 5 then ((va_Idx.f 300 1).bind fun t120 => (if t120 = 4 then ((va_Idx.f 300 0).bind fun t121 => (if t121 = 0 then ((va_Join.f 3 1).bind fun t122 => (some (t122 == 200))) else (some false))) else (some false))) else (some false))) else (some false))))) else (some false))))))) else (some false)) else (some false)) = some r := H
        have A8 := Aside0.mk A80
        clear A80
        by_cases c9 : t113 = true
        · subst c9
          have H1 : (if (t109 / 16384) = 1125899906842623 then ((va_Canon.f 16384).bind fun t114 => (if t114 = true then (some false) else ((va_Canon.f 32768).bind fun t115 => (if t115 = true then (some false) else ((va_Canon.f 16383).bind fun t116 => (if t116 = true then ((va_Aligned.f 4).bind fun t117 => (if t117 = true then (some false) else ((va_Idx.f 300 3).bind fun t118 => (if t118 = 4 then ((va_Idx.f 300 2).bind fun t119 => (if t119 = 5 then ((va_Idx.f 300 1).bind fun t120 => (if t120 = 4 then ((va_Idx.f 300 0).bind fun t121 => (if t121 = 0 then ((va_Join.f 3 1).bind fun t122 => (some (t122 == 200))) else (some false))) else (some false))) else (some false))) else (some false))))) else (some false))))))) else (some false)) = some r := by rw [if_pos rfl] at H; exact H
          clear H
          have H := H1
          clear H1
          by_cases c10 : (t109 / 16384) = 1125899906842623
          · rw [if_pos c10] at H
            have c10b0 : ((t109 / 16384) == 1125899906842623) = true := beq_iff_eq.mpr c10
            have c10b1 : ((t109 / 16384) != 1125899906842623) = false := bne_eq_false_iff_eq.mpr c10
            clear c10
            replace H := Option.bind_eq_some_iff.mp H
            obtain ⟨t114, A110, H⟩ := H
            replace H : (if t114 = true then (some false) else ((va_Canon.f 32768).bind fun t115 => (if t115 = true then (some false) else ((va_Canon.f 16383).bind fun t116 => (if t116 = true then ((va_Aligned.f 4).bind fun t117 => (if t117 = true then (some false) else ((va_Idx.f 300 3).bind fun t118 => (if t118 = 4 then ((va_Idx.f 300 2).bind fun t119 => (if t119 = 5 then ((va_Idx.f 300 1).bind fun t120 => (if t120 = 4 then ((va_Idx.f 300 0).bind fun t121 => (if t121 = 0 then ((va_Join.f 3 1).bind fun t122 => (some (t122 == 200))) else (some false))) else (some false))) else (some false))) else (some false))))) else (some false)))))) = some r := H
            have A11 := Aside0.mk A110
            clear A110
            by_cases c12 : t114 = true
            · subst c12
              have H1 : (some false) = some r := by rw [if_pos rfl] at H; exact H
              clear H
              have H := H1
              clear H1
              obtain rfl := Option.some.inj H
              go_enter Try.func9, Try.ntmps9
              go_wp2_with (first | ((with_reducible refine gate_callee (f := 18) rfl ?_); refine goesL_ (some 2) rfl rfl Try.func18 (by kernel_rfl) rfl #[.int .i64 300, .int .i64 5] rfl (by (try simp only [List.map_toArray, List.map_cons, List.map_nil]); first | done | rfl | (simp only [List.length_drop, List.length_take]; rfl)) ?_; (with_reducible refine (va_Join.calls 300 5 t109 _ A1.out).mono ?_); rintro e w' ⟨rfl, ⟨nd, rfl⟩⟩; refine ⟨_, rfl, ?_⟩) | ((with_reducible refine gate_callee (f := 14) rfl ?_); refine goesL_ (some 4) rfl rfl Try.func14 (by kernel_rfl) rfl #[.int .u64 t109] rfl (by (try simp only [List.map_toArray, List.map_cons, List.map_nil]); first | done | rfl | (simp only [List.length_drop, List.length_take]; rfl)) ?_; (with_reducible refine (va_Page.calls t109 t110 _ A2.out).mono ?_); rintro e w' ⟨rfl, ⟨nd, rfl⟩⟩; refine ⟨_, rfl, ?_⟩) | (go_at_call 16; (with_reducible refine (va_Word.calls t109 t111 _ A4.out).mono ?_); rintro e w' ⟨rfl, ⟨nd, rfl⟩⟩) | (go_at_call 10; (with_reducible refine (va_Canon.calls t109 true _ A6.out).mono ?_); rintro e w' ⟨rfl, ⟨nd, rfl⟩⟩) | (go_at_call 12; (with_reducible refine (va_Aligned.calls t109 true _ A8.out).mono ?_); rintro e w' ⟨rfl, ⟨nd, rfl⟩⟩) | (go_at_call 10; (with_reducible refine (va_Canon.calls 16384 true _ A11.out).mono ?_); rintro e w' ⟨rfl, ⟨nd, rfl⟩⟩))
              go_ret
              exact ⟨by first | rfl | (simp; done) | (simp [*]; done), by repeat (first | exact Drawn0.refl _ | apply Drawn0.step)⟩
            · replace c12 := Bool.eq_false_iff.mpr c12
              subst c12
              have H1 : ((va_Canon.f 32768).bind fun t115 => (if t115 = true then (some false) else ((va_Canon.f 16383).bind fun t116 => (if t116 = true then ((va_Aligned.f 4).bind fun t117 => (if t117 = true then (some false) else ((va_Idx.f 300 3).bind fun t118 => (if t118 = 4 then ((va_Idx.f 300 2).bind fun t119 => (if t119 = 5 then ((va_Idx.f 300 1).bind fun t120 => (if t120 = 4 then ((va_Idx.f 300 0).bind fun t121 => (if t121 = 0 then ((va_Join.f 3 1).bind fun t122 => (some (t122 == 200))) else (some false))) else (some false))) else (some false))) else (some false))))) else (some false))))) = some r := by rw [if_neg (show ¬ (false = true) by decide)] at H; exact H
              clear H
              have H := H1
              clear H1
              replace H := Option.bind_eq_some_iff.mp H
              obtain ⟨t115, A130, H⟩ := H
              replace H : (if t115 = true then (some false) else ((va_Canon.f 16383).bind fun t116 => (if t116 = true then ((va_Aligned.f 4).bind fun t117 => (if t117 = true then (some false) else ((va_Idx.f 300 3).bind fun t118 => (if t118 = 4 then ((va_Idx.f 300 2).bind fun t119 => (if t119 = 5 then ((va_Idx.f 300 1).bind fun t120 => (if t120 = 4 then ((va_Idx.f 300 0).bind fun t121 => (if t121 = 0 then ((va_Join.f 3 1).bind fun t122 => (some (t122 == 200))) else (some false))) else (some false))) else (some false))) else (some false))))) else (some false)))) = some r := H
              have A13 := Aside0.mk A130
              clear A130
              by_cases c14 : t115 = true
              · subst c14
                have H1 : (some false) = some r := by rw [if_pos rfl] at H; exact H
                clear H
                have H := H1
                clear H1
                obtain rfl := Option.some.inj H
                go_enter Try.func9, Try.ntmps9
                go_wp2_with (first | ((with_reducible refine gate_callee (f := 18) rfl ?_); refine goesL_ (some 2) rfl rfl Try.func18 (by kernel_rfl) rfl #[.int .i64 300, .int .i64 5] rfl (by (try simp only [List.map_toArray, List.map_cons, List.map_nil]); first | done | rfl | (simp only [List.length_drop, List.length_take]; rfl)) ?_; (with_reducible refine (va_Join.calls 300 5 t109 _ A1.out).mono ?_); rintro e w' ⟨rfl, ⟨nd, rfl⟩⟩; refine ⟨_, rfl, ?_⟩) | ((with_reducible refine gate_callee (f := 14) rfl ?_); refine goesL_ (some 4) rfl rfl Try.func14 (by kernel_rfl) rfl #[.int .u64 t109] rfl (by (try simp only [List.map_toArray, List.map_cons, List.map_nil]); first | done | rfl | (simp only [List.length_drop, List.length_take]; rfl)) ?_; (with_reducible refine (va_Page.calls t109 t110 _ A2.out).mono ?_); rintro e w' ⟨rfl, ⟨nd, rfl⟩⟩; refine ⟨_, rfl, ?_⟩) | (go_at_call 16; (with_reducible refine (va_Word.calls t109 t111 _ A4.out).mono ?_); rintro e w' ⟨rfl, ⟨nd, rfl⟩⟩) | (go_at_call 10; (with_reducible refine (va_Canon.calls t109 true _ A6.out).mono ?_); rintro e w' ⟨rfl, ⟨nd, rfl⟩⟩) | (go_at_call 12; (with_reducible refine (va_Aligned.calls t109 true _ A8.out).mono ?_); rintro e w' ⟨rfl, ⟨nd, rfl⟩⟩) | (go_at_call 10; (with_reducible refine (va_Canon.calls 16384 false _ A11.out).mono ?_); rintro e w' ⟨rfl, ⟨nd, rfl⟩⟩) | (go_at_call 10; (with_reducible refine (va_Canon.calls 32768 true _ A13.out).mono ?_); rintro e w' ⟨rfl, ⟨nd, rfl⟩⟩))
                go_ret
                exact ⟨by first | rfl | (simp; done) | (simp [*]; done), by repeat (first | exact Drawn0.refl _ | apply Drawn0.step)⟩
              · replace c14 := Bool.eq_false_iff.mpr c14
                subst c14
                have H1 : ((va_Canon.f 16383).bind fun t116 => (if t116 = true then ((va_Aligned.f 4).bind fun t117 => (if t117 = true then (some false) else ((va_Idx.f 300 3).bind fun t118 => (if t118 = 4 then ((va_Idx.f 300 2).bind fun t119 => (if t119 = 5 then ((va_Idx.f 300 1).bind fun t120 => (if t120 = 4 then ((va_Idx.f 300 0).bind fun t121 => (if t121 = 0 then ((va_Join.f 3 1).bind fun t122 => (some (t122 == 200))) else (some false))) else (some false))) else (some false))) else (some false))))) else (some false))) = some r := by rw [if_neg (show ¬ (false = true) by decide)] at H; exact H
                clear H
                have H := H1
                clear H1
                replace H := Option.bind_eq_some_iff.mp H
                obtain ⟨t116, A150, H⟩ := H
                replace H : (if t116 = true then ((va_Aligned.f 4).bind fun t117 => (if t117 = true then (some false) else ((va_Idx.f 300 3).bind fun t118 => (if t118 = 4 then ((va_Idx.f 300 2).bind fun t119 => (if t119 = 5 then ((va_Idx.f 300 1).bind fun t120 => (if t120 = 4 then ((va_Idx.f 300 0).bind fun t121 => (if t121 = 0 then ((va_Join.f 3 1).bind fun t122 => (some (t122 == 200))) else (some false))) else (some false))) else (some false))) else (some false))))) else (some false)) = some r := H
                have A15 := Aside0.mk A150
                clear A150
                by_cases c16 : t116 = true
                · subst c16
                  have H1 : ((va_Aligned.f 4).bind fun t117 => (if t117 = true then (some false) else ((va_Idx.f 300 3).bind fun t118 => (if t118 = 4 then ((va_Idx.f 300 2).bind fun t119 => (if t119 = 5 then ((va_Idx.f 300 1).bind fun t120 => (if t120 = 4 then ((va_Idx.f 300 0).bind fun t121 => (if t121 = 0 then ((va_Join.f 3 1).bind fun t122 => (some (t122 == 200))) else (some false))) else (some false))) else (some false))) else (some false))))) = some r := by rw [if_pos rfl] at H; exact H
                  clear H
                  have H := H1
                  clear H1
                  replace H := Option.bind_eq_some_iff.mp H
                  obtain ⟨t117, A170, H⟩ := H
                  replace H : (if t117 = true then (some false) else ((va_Idx.f 300 3).bind fun t118 => (if t118 = 4 then ((va_Idx.f 300 2).bind fun t119 => (if t119 = 5 then ((va_Idx.f 300 1).bind fun t120 => (if t120 = 4 then ((va_Idx.f 300 0).bind fun t121 => (if t121 = 0 then ((va_Join.f 3 1).bind fun t122 => (some (t122 == 200))) else (some false))) else (some false))) else (some false))) else (some false)))) = some r := H
                  have A17 := Aside0.mk A170
                  clear A170
                  by_cases c18 : t117 = true
                  · subst c18
                    have H1 : (some false) = some r := by rw [if_pos rfl] at H; exact H
                    clear H
                    have H := H1
                    clear H1
                    obtain rfl := Option.some.inj H
                    go_enter Try.func9, Try.ntmps9
                    go_wp2_with (first | ((with_reducible refine gate_callee (f := 18) rfl ?_); refine goesL_ (some 2) rfl rfl Try.func18 (by kernel_rfl) rfl #[.int .i64 300, .int .i64 5] rfl (by (try simp only [List.map_toArray, List.map_cons, List.map_nil]); first | done | rfl | (simp only [List.length_drop, List.length_take]; rfl)) ?_; (with_reducible refine (va_Join.calls 300 5 t109 _ A1.out).mono ?_); rintro e w' ⟨rfl, ⟨nd, rfl⟩⟩; refine ⟨_, rfl, ?_⟩) | ((with_reducible refine gate_callee (f := 14) rfl ?_); refine goesL_ (some 4) rfl rfl Try.func14 (by kernel_rfl) rfl #[.int .u64 t109] rfl (by (try simp only [List.map_toArray, List.map_cons, List.map_nil]); first | done | rfl | (simp only [List.length_drop, List.length_take]; rfl)) ?_; (with_reducible refine (va_Page.calls t109 t110 _ A2.out).mono ?_); rintro e w' ⟨rfl, ⟨nd, rfl⟩⟩; refine ⟨_, rfl, ?_⟩) | (go_at_call 16; (with_reducible refine (va_Word.calls t109 t111 _ A4.out).mono ?_); rintro e w' ⟨rfl, ⟨nd, rfl⟩⟩) | (go_at_call 10; (with_reducible refine (va_Canon.calls t109 true _ A6.out).mono ?_); rintro e w' ⟨rfl, ⟨nd, rfl⟩⟩) | (go_at_call 12; (with_reducible refine (va_Aligned.calls t109 true _ A8.out).mono ?_); rintro e w' ⟨rfl, ⟨nd, rfl⟩⟩) | (go_at_call 10; (with_reducible refine (va_Canon.calls 16384 false _ A11.out).mono ?_); rintro e w' ⟨rfl, ⟨nd, rfl⟩⟩) | (go_at_call 10; (with_reducible refine (va_Canon.calls 32768 false _ A13.out).mono ?_); rintro e w' ⟨rfl, ⟨nd, rfl⟩⟩) | (go_at_call 10; (with_reducible refine (va_Canon.calls 16383 true _ A15.out).mono ?_); rintro e w' ⟨rfl, ⟨nd, rfl⟩⟩) | (go_at_call 12; (with_reducible refine (va_Aligned.calls 4 true _ A17.out).mono ?_); rintro e w' ⟨rfl, ⟨nd, rfl⟩⟩))
                    go_ret
                    exact ⟨by first | rfl | (simp; done) | (simp [*]; done), by repeat (first | exact Drawn0.refl _ | apply Drawn0.step)⟩
                  · replace c18 := Bool.eq_false_iff.mpr c18
                    subst c18
                    have H1 : ((va_Idx.f 300 3).bind fun t118 => (if t118 = 4 then ((va_Idx.f 300 2).bind fun t119 => (if t119 = 5 then ((va_Idx.f 300 1).bind fun t120 => (if t120 = 4 then ((va_Idx.f 300 0).bind fun t121 => (if t121 = 0 then ((va_Join.f 3 1).bind fun t122 => (some (t122 == 200))) else (some false))) else (some false))) else (some false))) else (some false))) = some r := by rw [if_neg (show ¬ (false = true) by decide)] at H; exact H
                    clear H
                    have H := H1
                    clear H1
                    replace H := Option.bind_eq_some_iff.mp H
                    obtain ⟨t118, A190, H⟩ := H
                    replace H : (if t118 = 4 then ((va_Idx.f 300 2).bind fun t119 => (if t119 = 5 then ((va_Idx.f 300 1).bind fun t120 => (if t120 = 4 then ((va_Idx.f 300 0).bind fun t121 => (if t121 = 0 then ((va_Join.f 3 1).bind fun t122 => (some (t122 == 200))) else (some false))) else (some false))) else (some false))) else (some false)) = some r := H
                    have A19 := Aside0.mk A190
                    clear A190
                    by_cases c20 : t118 = 4
                    · rw [if_pos c20] at H
                      have c20b0 : (t118 == 4) = true := beq_iff_eq.mpr c20
                      have c20b1 : (t118 != 4) = false := bne_eq_false_iff_eq.mpr c20
                      clear c20
                      replace H := Option.bind_eq_some_iff.mp H
                      obtain ⟨t119, A210, H⟩ := H
                      replace H : (if t119 = 5 then ((va_Idx.f 300 1).bind fun t120 => (if t120 = 4 then ((va_Idx.f 300 0).bind fun t121 => (if t121 = 0 then ((va_Join.f 3 1).bind fun t122 => (some (t122 == 200))) else (some false))) else (some false))) else (some false)) = some r := H
                      have A21 := Aside0.mk A210
                      clear A210
                      by_cases c22 : t119 = 5
                      · rw [if_pos c22] at H
                        have c22b0 : (t119 == 5) = true := beq_iff_eq.mpr c22
                        have c22b1 : (t119 != 5) = false := bne_eq_false_iff_eq.mpr c22
                        clear c22
                        replace H := Option.bind_eq_some_iff.mp H
                        obtain ⟨t120, A230, H⟩ := H
                        replace H : (if t120 = 4 then ((va_Idx.f 300 0).bind fun t121 => (if t121 = 0 then ((va_Join.f 3 1).bind fun t122 => (some (t122 == 200))) else (some false))) else (some false)) = some r := H
                        have A23 := Aside0.mk A230
                        clear A230
                        by_cases c24 : t120 = 4
                        · rw [if_pos c24] at H
                          have c24b0 : (t120 == 4) = true := beq_iff_eq.mpr c24
                          have c24b1 : (t120 != 4) = false := bne_eq_false_iff_eq.mpr c24
                          clear c24
                          replace H := Option.bind_eq_some_iff.mp H
                          obtain ⟨t121, A250, H⟩ := H
                          replace H : (if t121 = 0 then ((va_Join.f 3 1).bind fun t122 => (some (t122 == 200))) else (some false)) = some r := H
                          have A25 := Aside0.mk A250
                          clear A250
                          by_cases c26 : t121 = 0
                          · rw [if_pos c26] at H
                            have c26b0 : (t121 == 0) = true := beq_iff_eq.mpr c26
                            have c26b1 : (t121 != 0) = false := bne_eq_false_iff_eq.mpr c26
                            clear c26
                            replace H := Option.bind_eq_some_iff.mp H
                            obtain ⟨t122, A270, H⟩ := H
                            replace H : (some (t122 == 200)) = some r := H
                            have A27 := Aside0.mk A270
                            clear A270
                            obtain rfl := Option.some.inj H
                            go_enter Try.func9, Try.ntmps9
                            go_wp2_with (first | ((with_reducible refine gate_callee (f := 18) rfl ?_); refine goesL_ (some 2) rfl rfl Try.func18 (by kernel_rfl) rfl #[.int .i64 300, .int .i64 5] rfl (by (try simp only [List.map_toArray, List.map_cons, List.map_nil]); first | done | rfl | (simp only [List.length_drop, List.length_take]; rfl)) ?_; (with_reducible refine (va_Join.calls 300 5 t109 _ A1.out).mono ?_); rintro e w' ⟨rfl, ⟨nd, rfl⟩⟩; refine ⟨_, rfl, ?_⟩) | ((with_reducible refine gate_callee (f := 14) rfl ?_); refine goesL_ (some 4) rfl rfl Try.func14 (by kernel_rfl) rfl #[.int .u64 t109] rfl (by (try simp only [List.map_toArray, List.map_cons, List.map_nil]); first | done | rfl | (simp only [List.length_drop, List.length_take]; rfl)) ?_; (with_reducible refine (va_Page.calls t109 t110 _ A2.out).mono ?_); rintro e w' ⟨rfl, ⟨nd, rfl⟩⟩; refine ⟨_, rfl, ?_⟩) | (go_at_call 16; (with_reducible refine (va_Word.calls t109 t111 _ A4.out).mono ?_); rintro e w' ⟨rfl, ⟨nd, rfl⟩⟩) | (go_at_call 10; (with_reducible refine (va_Canon.calls t109 true _ A6.out).mono ?_); rintro e w' ⟨rfl, ⟨nd, rfl⟩⟩) | (go_at_call 12; (with_reducible refine (va_Aligned.calls t109 true _ A8.out).mono ?_); rintro e w' ⟨rfl, ⟨nd, rfl⟩⟩) | (go_at_call 10; (with_reducible refine (va_Canon.calls 16384 false _ A11.out).mono ?_); rintro e w' ⟨rfl, ⟨nd, rfl⟩⟩) | (go_at_call 10; (with_reducible refine (va_Canon.calls 32768 false _ A13.out).mono ?_); rintro e w' ⟨rfl, ⟨nd, rfl⟩⟩) | (go_at_call 10; (with_reducible refine (va_Canon.calls 16383 true _ A15.out).mono ?_); rintro e w' ⟨rfl, ⟨nd, rfl⟩⟩) | (go_at_call 12; (with_reducible refine (va_Aligned.calls 4 false _ A17.out).mono ?_); rintro e w' ⟨rfl, ⟨nd, rfl⟩⟩) | (go_at_call 20; (with_reducible refine (va_Idx.calls 300 3 t118 _ A19.out).mono ?_); rintro e w' ⟨rfl, ⟨nd, rfl⟩⟩) | (go_at_call 20; (with_reducible refine (va_Idx.calls 300 2 t119 _ A21.out).mono ?_); rintro e w' ⟨rfl, ⟨nd, rfl⟩⟩) | (go_at_call 20; (with_reducible refine (va_Idx.calls 300 1 t120 _ A23.out).mono ?_); rintro e w' ⟨rfl, ⟨nd, rfl⟩⟩) | (go_at_call 20; (with_reducible refine (va_Idx.calls 300 0 t121 _ A25.out).mono ?_); rintro e w' ⟨rfl, ⟨nd, rfl⟩⟩) | (go_at_call 18; (with_reducible refine (va_Join.calls 3 1 t122 _ A27.out).mono ?_); rintro e w' ⟨rfl, ⟨nd, rfl⟩⟩))
                            go_ret
                            exact ⟨by first | rfl | (simp; done) | (simp [*]; done), by repeat (first | exact Drawn0.refl _ | apply Drawn0.step)⟩
                          · rw [if_neg c26] at H
                            have c26b0 : (t121 == 0) = false := beq_eq_false_iff_ne.mpr c26
                            have c26b1 : (t121 != 0) = true := bne_iff_ne.mpr c26
                            obtain rfl := Option.some.inj H
                            go_enter Try.func9, Try.ntmps9
                            go_wp2_with (first | ((with_reducible refine gate_callee (f := 18) rfl ?_); refine goesL_ (some 2) rfl rfl Try.func18 (by kernel_rfl) rfl #[.int .i64 300, .int .i64 5] rfl (by (try simp only [List.map_toArray, List.map_cons, List.map_nil]); first | done | rfl | (simp only [List.length_drop, List.length_take]; rfl)) ?_; (with_reducible refine (va_Join.calls 300 5 t109 _ A1.out).mono ?_); rintro e w' ⟨rfl, ⟨nd, rfl⟩⟩; refine ⟨_, rfl, ?_⟩) | ((with_reducible refine gate_callee (f := 14) rfl ?_); refine goesL_ (some 4) rfl rfl Try.func14 (by kernel_rfl) rfl #[.int .u64 t109] rfl (by (try simp only [List.map_toArray, List.map_cons, List.map_nil]); first | done | rfl | (simp only [List.length_drop, List.length_take]; rfl)) ?_; (with_reducible refine (va_Page.calls t109 t110 _ A2.out).mono ?_); rintro e w' ⟨rfl, ⟨nd, rfl⟩⟩; refine ⟨_, rfl, ?_⟩) | (go_at_call 16; (with_reducible refine (va_Word.calls t109 t111 _ A4.out).mono ?_); rintro e w' ⟨rfl, ⟨nd, rfl⟩⟩) | (go_at_call 10; (with_reducible refine (va_Canon.calls t109 true _ A6.out).mono ?_); rintro e w' ⟨rfl, ⟨nd, rfl⟩⟩) | (go_at_call 12; (with_reducible refine (va_Aligned.calls t109 true _ A8.out).mono ?_); rintro e w' ⟨rfl, ⟨nd, rfl⟩⟩) | (go_at_call 10; (with_reducible refine (va_Canon.calls 16384 false _ A11.out).mono ?_); rintro e w' ⟨rfl, ⟨nd, rfl⟩⟩) | (go_at_call 10; (with_reducible refine (va_Canon.calls 32768 false _ A13.out).mono ?_); rintro e w' ⟨rfl, ⟨nd, rfl⟩⟩) | (go_at_call 10; (with_reducible refine (va_Canon.calls 16383 true _ A15.out).mono ?_); rintro e w' ⟨rfl, ⟨nd, rfl⟩⟩) | (go_at_call 12; (with_reducible refine (va_Aligned.calls 4 false _ A17.out).mono ?_); rintro e w' ⟨rfl, ⟨nd, rfl⟩⟩) | (go_at_call 20; (with_reducible refine (va_Idx.calls 300 3 t118 _ A19.out).mono ?_); rintro e w' ⟨rfl, ⟨nd, rfl⟩⟩) | (go_at_call 20; (with_reducible refine (va_Idx.calls 300 2 t119 _ A21.out).mono ?_); rintro e w' ⟨rfl, ⟨nd, rfl⟩⟩) | (go_at_call 20; (with_reducible refine (va_Idx.calls 300 1 t120 _ A23.out).mono ?_); rintro e w' ⟨rfl, ⟨nd, rfl⟩⟩) | (go_at_call 20; (with_reducible refine (va_Idx.calls 300 0 t121 _ A25.out).mono ?_); rintro e w' ⟨rfl, ⟨nd, rfl⟩⟩))
                            go_ret
                            exact ⟨by first | rfl | (simp; done) | (simp [*]; done), by repeat (first | exact Drawn0.refl _ | apply Drawn0.step)⟩
                        · rw [if_neg c24] at H
                          have c24b0 : (t120 == 4) = false := beq_eq_false_iff_ne.mpr c24
                          have c24b1 : (t120 != 4) = true := bne_iff_ne.mpr c24
                          obtain rfl := Option.some.inj H
                          go_enter Try.func9, Try.ntmps9
                          go_wp2_with (first | ((with_reducible refine gate_callee (f := 18) rfl ?_); refine goesL_ (some 2) rfl rfl Try.func18 (by kernel_rfl) rfl #[.int .i64 300, .int .i64 5] rfl (by (try simp only [List.map_toArray, List.map_cons, List.map_nil]); first | done | rfl | (simp only [List.length_drop, List.length_take]; rfl)) ?_; (with_reducible refine (va_Join.calls 300 5 t109 _ A1.out).mono ?_); rintro e w' ⟨rfl, ⟨nd, rfl⟩⟩; refine ⟨_, rfl, ?_⟩) | ((with_reducible refine gate_callee (f := 14) rfl ?_); refine goesL_ (some 4) rfl rfl Try.func14 (by kernel_rfl) rfl #[.int .u64 t109] rfl (by (try simp only [List.map_toArray, List.map_cons, List.map_nil]); first | done | rfl | (simp only [List.length_drop, List.length_take]; rfl)) ?_; (with_reducible refine (va_Page.calls t109 t110 _ A2.out).mono ?_); rintro e w' ⟨rfl, ⟨nd, rfl⟩⟩; refine ⟨_, rfl, ?_⟩) | (go_at_call 16; (with_reducible refine (va_Word.calls t109 t111 _ A4.out).mono ?_); rintro e w' ⟨rfl, ⟨nd, rfl⟩⟩) | (go_at_call 10; (with_reducible refine (va_Canon.calls t109 true _ A6.out).mono ?_); rintro e w' ⟨rfl, ⟨nd, rfl⟩⟩) | (go_at_call 12; (with_reducible refine (va_Aligned.calls t109 true _ A8.out).mono ?_); rintro e w' ⟨rfl, ⟨nd, rfl⟩⟩) | (go_at_call 10; (with_reducible refine (va_Canon.calls 16384 false _ A11.out).mono ?_); rintro e w' ⟨rfl, ⟨nd, rfl⟩⟩) | (go_at_call 10; (with_reducible refine (va_Canon.calls 32768 false _ A13.out).mono ?_); rintro e w' ⟨rfl, ⟨nd, rfl⟩⟩) | (go_at_call 10; (with_reducible refine (va_Canon.calls 16383 true _ A15.out).mono ?_); rintro e w' ⟨rfl, ⟨nd, rfl⟩⟩) | (go_at_call 12; (with_reducible refine (va_Aligned.calls 4 false _ A17.out).mono ?_); rintro e w' ⟨rfl, ⟨nd, rfl⟩⟩) | (go_at_call 20; (with_reducible refine (va_Idx.calls 300 3 t118 _ A19.out).mono ?_); rintro e w' ⟨rfl, ⟨nd, rfl⟩⟩) | (go_at_call 20; (with_reducible refine (va_Idx.calls 300 2 t119 _ A21.out).mono ?_); rintro e w' ⟨rfl, ⟨nd, rfl⟩⟩) | (go_at_call 20; (with_reducible refine (va_Idx.calls 300 1 t120 _ A23.out).mono ?_); rintro e w' ⟨rfl, ⟨nd, rfl⟩⟩))
                          go_ret
                          exact ⟨by first | rfl | (simp; done) | (simp [*]; done), by repeat (first | exact Drawn0.refl _ | apply Drawn0.step)⟩
                      · rw [if_neg c22] at H
                        have c22b0 : (t119 == 5) = false := beq_eq_false_iff_ne.mpr c22
                        have c22b1 : (t119 != 5) = true := bne_iff_ne.mpr c22
                        obtain rfl := Option.some.inj H
                        go_enter Try.func9, Try.ntmps9
                        go_wp2_with (first | ((with_reducible refine gate_callee (f := 18) rfl ?_); refine goesL_ (some 2) rfl rfl Try.func18 (by kernel_rfl) rfl #[.int .i64 300, .int .i64 5] rfl (by (try simp only [List.map_toArray, List.map_cons, List.map_nil]); first | done | rfl | (simp only [List.length_drop, List.length_take]; rfl)) ?_; (with_reducible refine (va_Join.calls 300 5 t109 _ A1.out).mono ?_); rintro e w' ⟨rfl, ⟨nd, rfl⟩⟩; refine ⟨_, rfl, ?_⟩) | ((with_reducible refine gate_callee (f := 14) rfl ?_); refine goesL_ (some 4) rfl rfl Try.func14 (by kernel_rfl) rfl #[.int .u64 t109] rfl (by (try simp only [List.map_toArray, List.map_cons, List.map_nil]); first | done | rfl | (simp only [List.length_drop, List.length_take]; rfl)) ?_; (with_reducible refine (va_Page.calls t109 t110 _ A2.out).mono ?_); rintro e w' ⟨rfl, ⟨nd, rfl⟩⟩; refine ⟨_, rfl, ?_⟩) | (go_at_call 16; (with_reducible refine (va_Word.calls t109 t111 _ A4.out).mono ?_); rintro e w' ⟨rfl, ⟨nd, rfl⟩⟩) | (go_at_call 10; (with_reducible refine (va_Canon.calls t109 true _ A6.out).mono ?_); rintro e w' ⟨rfl, ⟨nd, rfl⟩⟩) | (go_at_call 12; (with_reducible refine (va_Aligned.calls t109 true _ A8.out).mono ?_); rintro e w' ⟨rfl, ⟨nd, rfl⟩⟩) | (go_at_call 10; (with_reducible refine (va_Canon.calls 16384 false _ A11.out).mono ?_); rintro e w' ⟨rfl, ⟨nd, rfl⟩⟩) | (go_at_call 10; (with_reducible refine (va_Canon.calls 32768 false _ A13.out).mono ?_); rintro e w' ⟨rfl, ⟨nd, rfl⟩⟩) | (go_at_call 10; (with_reducible refine (va_Canon.calls 16383 true _ A15.out).mono ?_); rintro e w' ⟨rfl, ⟨nd, rfl⟩⟩) | (go_at_call 12; (with_reducible refine (va_Aligned.calls 4 false _ A17.out).mono ?_); rintro e w' ⟨rfl, ⟨nd, rfl⟩⟩) | (go_at_call 20; (with_reducible refine (va_Idx.calls 300 3 t118 _ A19.out).mono ?_); rintro e w' ⟨rfl, ⟨nd, rfl⟩⟩) | (go_at_call 20; (with_reducible refine (va_Idx.calls 300 2 t119 _ A21.out).mono ?_); rintro e w' ⟨rfl, ⟨nd, rfl⟩⟩))
                        go_ret
                        exact ⟨by first | rfl | (simp; done) | (simp [*]; done), by repeat (first | exact Drawn0.refl _ | apply Drawn0.step)⟩
                    · rw [if_neg c20] at H
                      have c20b0 : (t118 == 4) = false := beq_eq_false_iff_ne.mpr c20
                      have c20b1 : (t118 != 4) = true := bne_iff_ne.mpr c20
                      obtain rfl := Option.some.inj H
                      go_enter Try.func9, Try.ntmps9
                      go_wp2_with (first | ((with_reducible refine gate_callee (f := 18) rfl ?_); refine goesL_ (some 2) rfl rfl Try.func18 (by kernel_rfl) rfl #[.int .i64 300, .int .i64 5] rfl (by (try simp only [List.map_toArray, List.map_cons, List.map_nil]); first | done | rfl | (simp only [List.length_drop, List.length_take]; rfl)) ?_; (with_reducible refine (va_Join.calls 300 5 t109 _ A1.out).mono ?_); rintro e w' ⟨rfl, ⟨nd, rfl⟩⟩; refine ⟨_, rfl, ?_⟩) | ((with_reducible refine gate_callee (f := 14) rfl ?_); refine goesL_ (some 4) rfl rfl Try.func14 (by kernel_rfl) rfl #[.int .u64 t109] rfl (by (try simp only [List.map_toArray, List.map_cons, List.map_nil]); first | done | rfl | (simp only [List.length_drop, List.length_take]; rfl)) ?_; (with_reducible refine (va_Page.calls t109 t110 _ A2.out).mono ?_); rintro e w' ⟨rfl, ⟨nd, rfl⟩⟩; refine ⟨_, rfl, ?_⟩) | (go_at_call 16; (with_reducible refine (va_Word.calls t109 t111 _ A4.out).mono ?_); rintro e w' ⟨rfl, ⟨nd, rfl⟩⟩) | (go_at_call 10; (with_reducible refine (va_Canon.calls t109 true _ A6.out).mono ?_); rintro e w' ⟨rfl, ⟨nd, rfl⟩⟩) | (go_at_call 12; (with_reducible refine (va_Aligned.calls t109 true _ A8.out).mono ?_); rintro e w' ⟨rfl, ⟨nd, rfl⟩⟩) | (go_at_call 10; (with_reducible refine (va_Canon.calls 16384 false _ A11.out).mono ?_); rintro e w' ⟨rfl, ⟨nd, rfl⟩⟩) | (go_at_call 10; (with_reducible refine (va_Canon.calls 32768 false _ A13.out).mono ?_); rintro e w' ⟨rfl, ⟨nd, rfl⟩⟩) | (go_at_call 10; (with_reducible refine (va_Canon.calls 16383 true _ A15.out).mono ?_); rintro e w' ⟨rfl, ⟨nd, rfl⟩⟩) | (go_at_call 12; (with_reducible refine (va_Aligned.calls 4 false _ A17.out).mono ?_); rintro e w' ⟨rfl, ⟨nd, rfl⟩⟩) | (go_at_call 20; (with_reducible refine (va_Idx.calls 300 3 t118 _ A19.out).mono ?_); rintro e w' ⟨rfl, ⟨nd, rfl⟩⟩))
                      go_ret
                      exact ⟨by first | rfl | (simp; done) | (simp [*]; done), by repeat (first | exact Drawn0.refl _ | apply Drawn0.step)⟩
                · replace c16 := Bool.eq_false_iff.mpr c16
                  subst c16
                  have H1 : (some false) = some r := by rw [if_neg (show ¬ (false = true) by decide)] at H; exact H
                  clear H
                  have H := H1
                  clear H1
                  obtain rfl := Option.some.inj H
                  go_enter Try.func9, Try.ntmps9
                  go_wp2_with (first | ((with_reducible refine gate_callee (f := 18) rfl ?_); refine goesL_ (some 2) rfl rfl Try.func18 (by kernel_rfl) rfl #[.int .i64 300, .int .i64 5] rfl (by (try simp only [List.map_toArray, List.map_cons, List.map_nil]); first | done | rfl | (simp only [List.length_drop, List.length_take]; rfl)) ?_; (with_reducible refine (va_Join.calls 300 5 t109 _ A1.out).mono ?_); rintro e w' ⟨rfl, ⟨nd, rfl⟩⟩; refine ⟨_, rfl, ?_⟩) | ((with_reducible refine gate_callee (f := 14) rfl ?_); refine goesL_ (some 4) rfl rfl Try.func14 (by kernel_rfl) rfl #[.int .u64 t109] rfl (by (try simp only [List.map_toArray, List.map_cons, List.map_nil]); first | done | rfl | (simp only [List.length_drop, List.length_take]; rfl)) ?_; (with_reducible refine (va_Page.calls t109 t110 _ A2.out).mono ?_); rintro e w' ⟨rfl, ⟨nd, rfl⟩⟩; refine ⟨_, rfl, ?_⟩) | (go_at_call 16; (with_reducible refine (va_Word.calls t109 t111 _ A4.out).mono ?_); rintro e w' ⟨rfl, ⟨nd, rfl⟩⟩) | (go_at_call 10; (with_reducible refine (va_Canon.calls t109 true _ A6.out).mono ?_); rintro e w' ⟨rfl, ⟨nd, rfl⟩⟩) | (go_at_call 12; (with_reducible refine (va_Aligned.calls t109 true _ A8.out).mono ?_); rintro e w' ⟨rfl, ⟨nd, rfl⟩⟩) | (go_at_call 10; (with_reducible refine (va_Canon.calls 16384 false _ A11.out).mono ?_); rintro e w' ⟨rfl, ⟨nd, rfl⟩⟩) | (go_at_call 10; (with_reducible refine (va_Canon.calls 32768 false _ A13.out).mono ?_); rintro e w' ⟨rfl, ⟨nd, rfl⟩⟩) | (go_at_call 10; (with_reducible refine (va_Canon.calls 16383 false _ A15.out).mono ?_); rintro e w' ⟨rfl, ⟨nd, rfl⟩⟩))
                  go_ret
                  exact ⟨by first | rfl | (simp; done) | (simp [*]; done), by repeat (first | exact Drawn0.refl _ | apply Drawn0.step)⟩
          · rw [if_neg c10] at H
            have c10b0 : ((t109 / 16384) == 1125899906842623) = false := beq_eq_false_iff_ne.mpr c10
            have c10b1 : ((t109 / 16384) != 1125899906842623) = true := bne_iff_ne.mpr c10
            obtain rfl := Option.some.inj H
            go_enter Try.func9, Try.ntmps9
            go_wp2_with (first | ((with_reducible refine gate_callee (f := 18) rfl ?_); refine goesL_ (some 2) rfl rfl Try.func18 (by kernel_rfl) rfl #[.int .i64 300, .int .i64 5] rfl (by (try simp only [List.map_toArray, List.map_cons, List.map_nil]); first | done | rfl | (simp only [List.length_drop, List.length_take]; rfl)) ?_; (with_reducible refine (va_Join.calls 300 5 t109 _ A1.out).mono ?_); rintro e w' ⟨rfl, ⟨nd, rfl⟩⟩; refine ⟨_, rfl, ?_⟩) | ((with_reducible refine gate_callee (f := 14) rfl ?_); refine goesL_ (some 4) rfl rfl Try.func14 (by kernel_rfl) rfl #[.int .u64 t109] rfl (by (try simp only [List.map_toArray, List.map_cons, List.map_nil]); first | done | rfl | (simp only [List.length_drop, List.length_take]; rfl)) ?_; (with_reducible refine (va_Page.calls t109 t110 _ A2.out).mono ?_); rintro e w' ⟨rfl, ⟨nd, rfl⟩⟩; refine ⟨_, rfl, ?_⟩) | (go_at_call 16; (with_reducible refine (va_Word.calls t109 t111 _ A4.out).mono ?_); rintro e w' ⟨rfl, ⟨nd, rfl⟩⟩) | (go_at_call 10; (with_reducible refine (va_Canon.calls t109 true _ A6.out).mono ?_); rintro e w' ⟨rfl, ⟨nd, rfl⟩⟩) | (go_at_call 12; (with_reducible refine (va_Aligned.calls t109 true _ A8.out).mono ?_); rintro e w' ⟨rfl, ⟨nd, rfl⟩⟩))
            go_ret
            exact ⟨by first | rfl | (simp; done) | (simp [*]; done), by repeat (first | exact Drawn0.refl _ | apply Drawn0.step)⟩
        · replace c9 := Bool.eq_false_iff.mpr c9
          subst c9
          have H1 : (some false) = some r := by rw [if_neg (show ¬ (false = true) by decide)] at H; exact H
          clear H
          have H := H1
          clear H1
          obtain rfl := Option.some.inj H
          go_enter Try.func9, Try.ntmps9
          go_wp2_with (first | ((with_reducible refine gate_callee (f := 18) rfl ?_); refine goesL_ (some 2) rfl rfl Try.func18 (by kernel_rfl) rfl #[.int .i64 300, .int .i64 5] rfl (by (try simp only [List.map_toArray, List.map_cons, List.map_nil]); first | done | rfl | (simp only [List.length_drop, List.length_take]; rfl)) ?_; (with_reducible refine (va_Join.calls 300 5 t109 _ A1.out).mono ?_); rintro e w' ⟨rfl, ⟨nd, rfl⟩⟩; refine ⟨_, rfl, ?_⟩) | ((with_reducible refine gate_callee (f := 14) rfl ?_); refine goesL_ (some 4) rfl rfl Try.func14 (by kernel_rfl) rfl #[.int .u64 t109] rfl (by (try simp only [List.map_toArray, List.map_cons, List.map_nil]); first | done | rfl | (simp only [List.length_drop, List.length_take]; rfl)) ?_; (with_reducible refine (va_Page.calls t109 t110 _ A2.out).mono ?_); rintro e w' ⟨rfl, ⟨nd, rfl⟩⟩; refine ⟨_, rfl, ?_⟩) | (go_at_call 16; (with_reducible refine (va_Word.calls t109 t111 _ A4.out).mono ?_); rintro e w' ⟨rfl, ⟨nd, rfl⟩⟩) | (go_at_call 10; (with_reducible refine (va_Canon.calls t109 true _ A6.out).mono ?_); rintro e w' ⟨rfl, ⟨nd, rfl⟩⟩) | (go_at_call 12; (with_reducible refine (va_Aligned.calls t109 false _ A8.out).mono ?_); rintro e w' ⟨rfl, ⟨nd, rfl⟩⟩))
          go_ret
          exact ⟨by first | rfl | (simp; done) | (simp [*]; done), by repeat (first | exact Drawn0.refl _ | apply Drawn0.step)⟩
      · replace c7 := Bool.eq_false_iff.mpr c7
        subst c7
        have H1 : (some false) = some r := by rw [if_neg (show ¬ (false = true) by decide)] at H; exact H
        clear H
        have H := H1
        clear H1
        obtain rfl := Option.some.inj H
        go_enter Try.func9, Try.ntmps9
        go_wp2_with (first | ((with_reducible refine gate_callee (f := 18) rfl ?_); refine goesL_ (some 2) rfl rfl Try.func18 (by kernel_rfl) rfl #[.int .i64 300, .int .i64 5] rfl (by (try simp only [List.map_toArray, List.map_cons, List.map_nil]); first | done | rfl | (simp only [List.length_drop, List.length_take]; rfl)) ?_; (with_reducible refine (va_Join.calls 300 5 t109 _ A1.out).mono ?_); rintro e w' ⟨rfl, ⟨nd, rfl⟩⟩; refine ⟨_, rfl, ?_⟩) | ((with_reducible refine gate_callee (f := 14) rfl ?_); refine goesL_ (some 4) rfl rfl Try.func14 (by kernel_rfl) rfl #[.int .u64 t109] rfl (by (try simp only [List.map_toArray, List.map_cons, List.map_nil]); first | done | rfl | (simp only [List.length_drop, List.length_take]; rfl)) ?_; (with_reducible refine (va_Page.calls t109 t110 _ A2.out).mono ?_); rintro e w' ⟨rfl, ⟨nd, rfl⟩⟩; refine ⟨_, rfl, ?_⟩) | (go_at_call 16; (with_reducible refine (va_Word.calls t109 t111 _ A4.out).mono ?_); rintro e w' ⟨rfl, ⟨nd, rfl⟩⟩) | (go_at_call 10; (with_reducible refine (va_Canon.calls t109 false _ A6.out).mono ?_); rintro e w' ⟨rfl, ⟨nd, rfl⟩⟩))
        go_ret
        exact ⟨by first | rfl | (simp; done) | (simp [*]; done), by repeat (first | exact Drawn0.refl _ | apply Drawn0.step)⟩
    · rw [if_neg c5] at H
      have c5b0 : (t111 == 5) = false := beq_eq_false_iff_ne.mpr c5
      have c5b1 : (t111 != 5) = true := bne_iff_ne.mpr c5
      obtain rfl := Option.some.inj H
      go_enter Try.func9, Try.ntmps9
      go_wp2_with (first | ((with_reducible refine gate_callee (f := 18) rfl ?_); refine goesL_ (some 2) rfl rfl Try.func18 (by kernel_rfl) rfl #[.int .i64 300, .int .i64 5] rfl (by (try simp only [List.map_toArray, List.map_cons, List.map_nil]); first | done | rfl | (simp only [List.length_drop, List.length_take]; rfl)) ?_; (with_reducible refine (va_Join.calls 300 5 t109 _ A1.out).mono ?_); rintro e w' ⟨rfl, ⟨nd, rfl⟩⟩; refine ⟨_, rfl, ?_⟩) | ((with_reducible refine gate_callee (f := 14) rfl ?_); refine goesL_ (some 4) rfl rfl Try.func14 (by kernel_rfl) rfl #[.int .u64 t109] rfl (by (try simp only [List.map_toArray, List.map_cons, List.map_nil]); first | done | rfl | (simp only [List.length_drop, List.length_take]; rfl)) ?_; (with_reducible refine (va_Page.calls t109 t110 _ A2.out).mono ?_); rintro e w' ⟨rfl, ⟨nd, rfl⟩⟩; refine ⟨_, rfl, ?_⟩) | (go_at_call 16; (with_reducible refine (va_Word.calls t109 t111 _ A4.out).mono ?_); rintro e w' ⟨rfl, ⟨nd, rfl⟩⟩))
      go_ret
      exact ⟨by first | rfl | (simp; done) | (simp [*]; done), by repeat (first | exact Drawn0.refl _ | apply Drawn0.step)⟩
  · rw [if_neg c3] at H
    have c3b0 : (t110 == 300) = false := beq_eq_false_iff_ne.mpr c3
    have c3b1 : (t110 != 300) = true := bne_iff_ne.mpr c3
    obtain rfl := Option.some.inj H
    go_enter Try.func9, Try.ntmps9
    go_wp2_with (first | ((with_reducible refine gate_callee (f := 18) rfl ?_); refine goesL_ (some 2) rfl rfl Try.func18 (by kernel_rfl) rfl #[.int .i64 300, .int .i64 5] rfl (by (try simp only [List.map_toArray, List.map_cons, List.map_nil]); first | done | rfl | (simp only [List.length_drop, List.length_take]; rfl)) ?_; (with_reducible refine (va_Join.calls 300 5 t109 _ A1.out).mono ?_); rintro e w' ⟨rfl, ⟨nd, rfl⟩⟩; refine ⟨_, rfl, ?_⟩) | ((with_reducible refine gate_callee (f := 14) rfl ?_); refine goesL_ (some 4) rfl rfl Try.func14 (by kernel_rfl) rfl #[.int .u64 t109] rfl (by (try simp only [List.map_toArray, List.map_cons, List.map_nil]); first | done | rfl | (simp only [List.length_drop, List.length_take]; rfl)) ?_; (with_reducible refine (va_Page.calls t109 t110 _ A2.out).mono ?_); rintro e w' ⟨rfl, ⟨nd, rfl⟩⟩; refine ⟨_, rfl, ?_⟩))
    go_ret
    exact ⟨by first | rfl | (simp; done) | (simp [*]; done), by repeat (first | exact Drawn0.refl _ | apply Drawn0.step)⟩

/-! ### silhouettelaw05_VaBack: function 4 -/
def silhouettelaw05_VaBack.f (a0 : Int) (a1 : Int) (a2 : Int) : Option (Bool) := (silhouettelaw05_head.f).bind fun t123 => ((va_Page.f a0).bind fun t124 => ((va_Word.f a0).bind fun t125 => ((va_Join.f t124 t125).bind fun t126 => ((va_Join.f (wrap64 (Int.tmod a1 512)) (wrap64 (Int.tmod a2 8))).bind fun t127 => (if t123 = true then ((va_Canon.f a0).bind fun t128 => (if t128 = true then ((va_Aligned.f a0).bind fun t129 => (if ((t126 == a0) == t129) = true then ((va_Page.f t127).bind fun t130 => (if t130 = (wrap64 (Int.tmod a1 512)) then ((va_Word.f t127).bind fun t131 => (if t131 = (wrap64 (Int.tmod a2 8)) then ((va_Canon.f t127).bind fun t132 => (if t132 = true then ((va_Aligned.f t127).bind fun t133 => (some t133)) else (some false))) else (some false))) else (some false))) else (some false))) else (if ((t126 == a0) == false) = true then ((va_Page.f t127).bind fun t134 => (if t134 = (wrap64 (Int.tmod a1 512)) then ((va_Word.f t127).bind fun t135 => (if t135 = (wrap64 (Int.tmod a2 8)) then ((va_Canon.f t127).bind fun t136 => (if t136 = true then ((va_Aligned.f t127).bind fun t137 => (some t137)) else (some false))) else (some false))) else (some false))) else (some false)))) else (some false))))))
set_option maxHeartbeats 8000000 in
set_option maxRecDepth 100000 in
theorem silhouettelaw05_VaBack.calls (a0 : Int) (a1 : Int) (a2 : Int) (r : Bool) (w : World) (h : silhouettelaw05_VaBack.f a0 a1 a2 = some r) :
    Calls Try.prog 4 #[.int .u64 a0, .int .u16 a1, .int .u8 a2] w fun e w' => e = .returned (.bool r) ∧ Drawn0 w w' := by
  have H : ((silhouettelaw05_head.f).bind fun t123 => ((va_Page.f a0).bind fun t124 => ((va_Word.f a0).bind fun t125 => ((va_Join.f t124 t125).bind fun t126 => ((va_Join.f (wrap64 (Int.tmod a1 512)) (wrap64 (Int.tmod a2 8))).bind fun t127 => (if t123 = true then ((va_Canon.f a0).bind fun t128 => (if t128 = true then ((va_Aligned.f a0).bind fun t129 => (if ((t126 == a0) == t129) = true then ((va_Page.f t127).bind fun t130 => (if t130 = (wrap64 (Int.tmod a1 512)) then ((va_Word.f t127).bind fun t131 => (if t131 = (wrap64 (Int.tmod a2 8)) then ((va_Canon.f t127).bind fun t132 => (if t132 = true then ((va_Aligned.f t127).bind fun t133 => (some t133)) else (some false))) else (some false))) else (some false))) else (some false))) else (if ((t126 == a0) == false) = true then ((va_Page.f t127).bind fun t134 => (if t134 = (wrap64 (Int.tmod a1 512)) then ((va_Word.f t127).bind fun t135 => (if t135 = (wrap64 (Int.tmod a2 8)) then ((va_Canon.f t127).bind fun t136 => (if t136 = true then ((va_Aligned.f t127).bind fun t137 => (some t137)) else (some false))) else (some false))) else (some false))) else (some false)))) else (some false))))))) = some r := h
  clear h
  replace H := Option.bind_eq_some_iff.mp H
  obtain ⟨t123, A40, H⟩ := H
  replace H : ((va_Page.f a0).bind fun t124 => ((va_Word.f a0).bind fun t125 => ((va_Join.f t124 t125).bind fun t126 => ((va_Join.f (wrap64 (Int.tmod a1 512)) (wrap64 (Int.tmod a2 8))).bind fun t127 => (if t123 = true then ((va_Canon.f a0).bind fun t128 => (if t128 = true then ((va_Aligned.f a0).bind fun t129 => (if ((t126 == a0) == t129) = true then ((va_Page.f t127).bind fun t130 => (if t130 = (wrap64 (Int.tmod a1 512)) then ((va_Word.f t127).bind fun t131 => (if t131 = (wrap64 (Int.tmod a2 8)) then ((va_Canon.f t127).bind fun t132 => (if t132 = true then ((va_Aligned.f t127).bind fun t133 => (some t133)) else (some false))) else (some false))) else (some false))) else (some false))) else (if ((t126 == a0) == false) = true then ((va_Page.f t127).bind fun t134 => (if t134 = (wrap64 (Int.tmod a1 512)) then ((va_Word.f t127).bind fun t135 => (if t135 = (wrap64 (Int.tmod a2 8)) then ((va_Canon.f t127).bind fun t136 => (if t136 = true then ((va_Aligned.f t127).bind fun t137 => (some t137)) else (some false))) else (some false))) else (some false))) else (some false)))) else (some false)))))) = some r := H
  have A4 := Aside0.mk A40
  clear A40
  replace H := Option.bind_eq_some_iff.mp H
  obtain ⟨t124, A50, H⟩ := H
  replace H : ((va_Word.f a0).bind fun t125 => ((va_Join.f t124 t125).bind fun t126 => ((va_Join.f (wrap64 (Int.tmod a1 512)) (wrap64 (Int.tmod a2 8))).bind fun t127 => (if t123 = true then ((va_Canon.f a0).bind fun t128 => (if t128 = true then ((va_Aligned.f a0).bind fun t129 => (if ((t126 == a0) == t129) = true then ((va_Page.f t127).bind fun t130 => (if t130 = (wrap64 (Int.tmod a1 512)) then ((va_Word.f t127).bind fun t131 => (if t131 = (wrap64 (Int.tmod a2 8)) then ((va_Canon.f t127).bind fun t132 => (if t132 = true then ((va_Aligned.f t127).bind fun t133 => (some t133)) else (some false))) else (some false))) else (some false))) else (some false))) else (if ((t126 == a0) == false) = true then ((va_Page.f t127).bind fun t134 => (if t134 = (wrap64 (Int.tmod a1 512)) then ((va_Word.f t127).bind fun t135 => (if t135 = (wrap64 (Int.tmod a2 8)) then ((va_Canon.f t127).bind fun t136 => (if t136 = true then ((va_Aligned.f t127).bind fun t137 => (some t137)) else (some false))) else (some false))) else (some false))) else (some false)))) else (some false))))) = some r := H
  have A5 := Aside0.mk A50
  clear A50
  replace H := Option.bind_eq_some_iff.mp H
  obtain ⟨t125, A60, H⟩ := H
  replace H : ((va_Join.f t124 t125).bind fun t126 => ((va_Join.f (wrap64 (Int.tmod a1 512)) (wrap64 (Int.tmod a2 8))).bind fun t127 => (if t123 = true then ((va_Canon.f a0).bind fun t128 => (if t128 = true then ((va_Aligned.f a0).bind fun t129 => (if ((t126 == a0) == t129) = true then ((va_Page.f t127).bind fun t130 => (if t130 = (wrap64 (Int.tmod a1 512)) then ((va_Word.f t127).bind fun t131 => (if t131 = (wrap64 (Int.tmod a2 8)) then ((va_Canon.f t127).bind fun t132 => (if t132 = true then ((va_Aligned.f t127).bind fun t133 => (some t133)) else (some false))) else (some false))) else (some false))) else (some false))) else (if ((t126 == a0) == false) = true then ((va_Page.f t127).bind fun t134 => (if t134 = (wrap64 (Int.tmod a1 512)) then ((va_Word.f t127).bind fun t135 => (if t135 = (wrap64 (Int.tmod a2 8)) then ((va_Canon.f t127).bind fun t136 => (if t136 = true then ((va_Aligned.f t127).bind fun t137 => (some t137)) else (some false))) else (some false))) else (some false))) else (some false)))) else (some false)))) = some r := H
  have A6 := Aside0.mk A60
  clear A60
  replace H := Option.bind_eq_some_iff.mp H
  obtain ⟨t126, A70, H⟩ := H
  replace H : ((va_Join.f (wrap64 (Int.tmod a1 512)) (wrap64 (Int.tmod a2 8))).bind fun t127 => (if t123 = true then ((va_Canon.f a0).bind fun t128 => (if t128 = true then ((va_Aligned.f a0).bind fun t129 => (if ((t126 == a0) == t129) = true then ((va_Page.f t127).bind fun t130 => (if t130 = (wrap64 (Int.tmod a1 512)) then ((va_Word.f t127).bind fun t131 => (if t131 = (wrap64 (Int.tmod a2 8)) then ((va_Canon.f t127).bind fun t132 => (if t132 = true then ((va_Aligned.f t127).bind fun t133 => (some t133)) else (some false))) else (some false))) else (some false))) else (some false))) else (if ((t126 == a0) == false) = true then ((va_Page.f t127).bind fun t134 => (if t134 = (wrap64 (Int.tmod a1 512)) then ((va_Word.f t127).bind fun t135 => (if t135 = (wrap64 (Int.tmod a2 8)) then ((va_Canon.f t127).bind fun t136 => (if t136 = true then ((va_Aligned.f t127).bind fun t137 => (some t137)) else (some false))) else (some false))) else (some false))) else (some false)))) else (some false))) = some r := H
  have A7 := Aside0.mk A70
  clear A70
  replace H := Option.bind_eq_some_iff.mp H
  obtain ⟨t127, A80, H⟩ := H
  replace H : (if t123 = true then ((va_Canon.f a0).bind fun t128 => (if t128 = true then ((va_Aligned.f a0).bind fun t129 => (if ((t126 == a0) == t129) = true then ((va_Page.f t127).bind fun t130 => (if t130 = (wrap64 (Int.tmod a1 512)) then ((va_Word.f t127).bind fun t131 => (if t131 = (wrap64 (Int.tmod a2 8)) then ((va_Canon.f t127).bind fun t132 => (if t132 = true then ((va_Aligned.f t127).bind fun t133 => (some t133)) else (some false))) else (some false))) else (some false))) else (some false))) else (if ((t126 == a0) == false) = true then ((va_Page.f t127).bind fun t134 => (if t134 = (wrap64 (Int.tmod a1 512)) then ((va_Word.f t127).bind fun t135 => (if t135 = (wrap64 (Int.tmod a2 8)) then ((va_Canon.f t127).bind fun t136 => (if t136 = true then ((va_Aligned.f t127).bind fun t137 => (some t137)) else (some false))) else (some false))) else (some false))) else (some false)))) else (some false)) = some r := H
  have A8 := Aside0.mk A80
  clear A80
  by_cases c9 : t123 = true
  · subst c9
    have H1 : ((va_Canon.f a0).bind fun t128 => (if t128 = true then ((va_Aligned.f a0).bind fun t129 => (if ((t126 == a0) == t129) = true then ((va_Page.f t127).bind fun t130 => (if t130 = (wrap64 (Int.tmod a1 512)) then ((va_Word.f t127).bind fun t131 => (if t131 = (wrap64 (Int.tmod a2 8)) then ((va_Canon.f t127).bind fun t132 => (if t132 = true then ((va_Aligned.f t127).bind fun t133 => (some t133)) else (some false))) else (some false))) else (some false))) else (some false))) else (if ((t126 == a0) == false) = true then ((va_Page.f t127).bind fun t134 => (if t134 = (wrap64 (Int.tmod a1 512)) then ((va_Word.f t127).bind fun t135 => (if t135 = (wrap64 (Int.tmod a2 8)) then ((va_Canon.f t127).bind fun t136 => (if t136 = true then ((va_Aligned.f t127).bind fun t137 => (some t137)) else (some false))) else (some false))) else (some false))) else (some false)))) = some r := by rw [if_pos rfl] at H; exact H
    clear H
    have H := H1
    clear H1
    replace H := Option.bind_eq_some_iff.mp H
    obtain ⟨t128, A100, H⟩ := H
    replace H : (if t128 = true then ((va_Aligned.f a0).bind fun t129 => (if ((t126 == a0) == t129) = true then ((va_Page.f t127).bind fun t130 => (if t130 = (wrap64 (Int.tmod a1 512)) then ((va_Word.f t127).bind fun t131 => (if t131 = (wrap64 (Int.tmod a2 8)) then ((va_Canon.f t127).bind fun t132 => (if t132 = true then ((va_Aligned.f t127).bind fun t133 => (some t133)) else (some false))) else (some false))) else (some false))) else (some false))) else (if ((t126 == a0) == false) = true then ((va_Page.f t127).bind fun t134 => (if t134 = (wrap64 (Int.tmod a1 512)) then ((va_Word.f t127).bind fun t135 => (if t135 = (wrap64 (Int.tmod a2 8)) then ((va_Canon.f t127).bind fun t136 => (if t136 = true then ((va_Aligned.f t127).bind fun t137 => (some t137)) else (some false))) else (some false))) else (some false))) else (some false))) = some r := H
    have A10 := Aside0.mk A100
    clear A100
    by_cases c11 : t128 = true
    · subst c11
      have H1 : ((va_Aligned.f a0).bind fun t129 => (if ((t126 == a0) == t129) = true then ((va_Page.f t127).bind fun t130 => (if t130 = (wrap64 (Int.tmod a1 512)) then ((va_Word.f t127).bind fun t131 => (if t131 = (wrap64 (Int.tmod a2 8)) then ((va_Canon.f t127).bind fun t132 => (if t132 = true then ((va_Aligned.f t127).bind fun t133 => (some t133)) else (some false))) else (some false))) else (some false))) else (some false))) = some r := by rw [if_pos rfl] at H; exact H
      clear H
      have H := H1
      clear H1
      replace H := Option.bind_eq_some_iff.mp H
      obtain ⟨t129, A120, H⟩ := H
      replace H : (if ((t126 == a0) == t129) = true then ((va_Page.f t127).bind fun t130 => (if t130 = (wrap64 (Int.tmod a1 512)) then ((va_Word.f t127).bind fun t131 => (if t131 = (wrap64 (Int.tmod a2 8)) then ((va_Canon.f t127).bind fun t132 => (if t132 = true then ((va_Aligned.f t127).bind fun t133 => (some t133)) else (some false))) else (some false))) else (some false))) else (some false)) = some r := H
      have A12 := Aside0.mk A120
      clear A120
      by_cases c13 : ((t126 == a0) == t129) = true
      · rw [if_pos c13] at H
        have c13b0 : ((t126 == a0) == t129) = true := c13
        (try (have c13b1 : decide ((t126 == a0) = t129) = true := by simpa using c13))
        (try (have c13b2 : ((t126 == a0) == t129) = true := by simpa using c13))
        clear c13
        replace H := Option.bind_eq_some_iff.mp H
        obtain ⟨t130, A140, H⟩ := H
        replace H : (if t130 = (wrap64 (Int.tmod a1 512)) then ((va_Word.f t127).bind fun t131 => (if t131 = (wrap64 (Int.tmod a2 8)) then ((va_Canon.f t127).bind fun t132 => (if t132 = true then ((va_Aligned.f t127).bind fun t133 => (some t133)) else (some false))) else (some false))) else (some false)) = some r := H
        have A14 := Aside0.mk A140
        clear A140
        by_cases c15 : t130 = (wrap64 (Int.tmod a1 512))
        · rw [if_pos c15] at H
          have c15b0 : (t130 == (wrap64 (Int.tmod a1 512))) = true := beq_iff_eq.mpr c15
          have c15b1 : (t130 != (wrap64 (Int.tmod a1 512))) = false := bne_eq_false_iff_eq.mpr c15
          clear c15
          replace H := Option.bind_eq_some_iff.mp H
          obtain ⟨t131, A160, H⟩ := H
          replace H : (if t131 = (wrap64 (Int.tmod a2 8)) then ((va_Canon.f t127).bind fun t132 => (if t132 = true then ((va_Aligned.f t127).bind fun t133 => (some t133)) else (some false))) else (some false)) = some r := H
          have A16 := Aside0.mk A160
          clear A160
          by_cases c17 : t131 = (wrap64 (Int.tmod a2 8))
          · rw [if_pos c17] at H
            have c17b0 : (t131 == (wrap64 (Int.tmod a2 8))) = true := beq_iff_eq.mpr c17
            have c17b1 : (t131 != (wrap64 (Int.tmod a2 8))) = false := bne_eq_false_iff_eq.mpr c17
            clear c17
            replace H := Option.bind_eq_some_iff.mp H
            obtain ⟨t132, A180, H⟩ := H
            replace H : (if t132 = true then ((va_Aligned.f t127).bind fun t133 => (some t133)) else (some false)) = some r := H
            have A18 := Aside0.mk A180
            clear A180
            by_cases c19 : t132 = true
            · subst c19
              have H1 : ((va_Aligned.f t127).bind fun t133 => (some t133)) = some r := by rw [if_pos rfl] at H; exact H
              clear H
              have H := H1
              clear H1
              replace H := Option.bind_eq_some_iff.mp H
              obtain ⟨t133, A200, H⟩ := H
              replace H : (some t133) = some r := H
              have A20 := Aside0.mk A200
              clear A200
              obtain rfl := Option.some.inj H
              go_enter Try.func4, Try.ntmps4
              go_wp2_with (first | ((with_reducible refine gate_callee (f := 9) rfl ?_); refine goesL_ (some 12) rfl rfl Try.func9 (by kernel_rfl) rfl #[] rfl (by (try simp only [List.map_toArray, List.map_cons, List.map_nil]); first | done | rfl | (simp only [List.length_drop, List.length_take]; rfl)) ?_; (with_reducible refine (silhouettelaw05_head.calls  true _ A4.out).mono ?_); rintro e w' ⟨rfl, ⟨nd, rfl⟩⟩; refine ⟨_, rfl, ?_⟩) | ((with_reducible refine gate_callee (f := 14) rfl ?_); refine goesL_ (some 14) rfl rfl Try.func14 (by kernel_rfl) rfl #[.int .u64 a0] rfl (by (try simp only [List.map_toArray, List.map_cons, List.map_nil]); first | done | rfl | (simp only [List.length_drop, List.length_take]; rfl)) ?_; (with_reducible refine (va_Page.calls a0 t124 _ A5.out).mono ?_); rintro e w' ⟨rfl, ⟨nd, rfl⟩⟩; refine ⟨_, rfl, ?_⟩) | ((with_reducible refine gate_callee (f := 16) rfl ?_); refine goesL_ (some 16) rfl rfl Try.func16 (by kernel_rfl) rfl #[.int .u64 a0] rfl (by (try simp only [List.map_toArray, List.map_cons, List.map_nil]); first | done | rfl | (simp only [List.length_drop, List.length_take]; rfl)) ?_; (with_reducible refine (va_Word.calls a0 t125 _ A6.out).mono ?_); rintro e w' ⟨rfl, ⟨nd, rfl⟩⟩; refine ⟨_, rfl, ?_⟩) | ((with_reducible refine gate_callee (f := 18) rfl ?_); refine goesL_ (some 17) rfl rfl Try.func18 (by kernel_rfl) rfl #[.int .i64 t124, .int .i64 t125] rfl (by (try simp only [List.map_toArray, List.map_cons, List.map_nil]); first | done | rfl | (simp only [List.length_drop, List.length_take]; rfl)) ?_; (with_reducible refine (va_Join.calls t124 t125 t126 _ A7.out).mono ?_); rintro e w' ⟨rfl, ⟨nd, rfl⟩⟩; refine ⟨_, rfl, ?_⟩) | ((with_reducible refine gate_callee (f := 18) rfl ?_); refine goesL_ (some 26) rfl rfl Try.func18 (by kernel_rfl) rfl #[.int .i64 (wrap64 (Int.tmod a1 512)), .int .i64 (wrap64 (Int.tmod a2 8))] rfl (by (try simp only [List.map_toArray, List.map_cons, List.map_nil]); first | done | rfl | (simp only [List.length_drop, List.length_take]; rfl)) ?_; (with_reducible refine (va_Join.calls (wrap64 (Int.tmod a1 512)) (wrap64 (Int.tmod a2 8)) t127 _ A8.out).mono ?_); rintro e w' ⟨rfl, ⟨nd, rfl⟩⟩; refine ⟨_, rfl, ?_⟩) | (go_at_call 10; (with_reducible refine (va_Canon.calls a0 true _ A10.out).mono ?_); rintro e w' ⟨rfl, ⟨nd, rfl⟩⟩) | (go_at_call 12; (with_reducible refine (va_Aligned.calls a0 t129 _ A12.out).mono ?_); rintro e w' ⟨rfl, ⟨nd, rfl⟩⟩) | (go_at_call 14; (with_reducible refine (va_Page.calls t127 t130 _ A14.out).mono ?_); rintro e w' ⟨rfl, ⟨nd, rfl⟩⟩) | (go_at_call 16; (with_reducible refine (va_Word.calls t127 t131 _ A16.out).mono ?_); rintro e w' ⟨rfl, ⟨nd, rfl⟩⟩) | (go_at_call 10; (with_reducible refine (va_Canon.calls t127 true _ A18.out).mono ?_); rintro e w' ⟨rfl, ⟨nd, rfl⟩⟩) | (go_at_call 12; (with_reducible refine (va_Aligned.calls t127 t133 _ A20.out).mono ?_); rintro e w' ⟨rfl, ⟨nd, rfl⟩⟩))
              go_ret
              exact ⟨by first | rfl | (simp; done) | (simp [*]; done), by repeat (first | exact Drawn0.refl _ | apply Drawn0.step)⟩
            · replace c19 := Bool.eq_false_iff.mpr c19
              subst c19
              have H1 : (some false) = some r := by rw [if_neg (show ¬ (false = true) by decide)] at H; exact H
              clear H
              have H := H1
              clear H1
              obtain rfl := Option.some.inj H
              go_enter Try.func4, Try.ntmps4
              go_wp2_with (first | ((with_reducible refine gate_callee (f := 9) rfl ?_); refine goesL_ (some 12) rfl rfl Try.func9 (by kernel_rfl) rfl #[] rfl (by (try simp only [List.map_toArray, List.map_cons, List.map_nil]); first | done | rfl | (simp only [List.length_drop, List.length_take]; rfl)) ?_; (with_reducible refine (silhouettelaw05_head.calls  true _ A4.out).mono ?_); rintro e w' ⟨rfl, ⟨nd, rfl⟩⟩; refine ⟨_, rfl, ?_⟩) | ((with_reducible refine gate_callee (f := 14) rfl ?_); refine goesL_ (some 14) rfl rfl Try.func14 (by kernel_rfl) rfl #[.int .u64 a0] rfl (by (try simp only [List.map_toArray, List.map_cons, List.map_nil]); first | done | rfl | (simp only [List.length_drop, List.length_take]; rfl)) ?_; (with_reducible refine (va_Page.calls a0 t124 _ A5.out).mono ?_); rintro e w' ⟨rfl, ⟨nd, rfl⟩⟩; refine ⟨_, rfl, ?_⟩) | ((with_reducible refine gate_callee (f := 16) rfl ?_); refine goesL_ (some 16) rfl rfl Try.func16 (by kernel_rfl) rfl #[.int .u64 a0] rfl (by (try simp only [List.map_toArray, List.map_cons, List.map_nil]); first | done | rfl | (simp only [List.length_drop, List.length_take]; rfl)) ?_; (with_reducible refine (va_Word.calls a0 t125 _ A6.out).mono ?_); rintro e w' ⟨rfl, ⟨nd, rfl⟩⟩; refine ⟨_, rfl, ?_⟩) | ((with_reducible refine gate_callee (f := 18) rfl ?_); refine goesL_ (some 17) rfl rfl Try.func18 (by kernel_rfl) rfl #[.int .i64 t124, .int .i64 t125] rfl (by (try simp only [List.map_toArray, List.map_cons, List.map_nil]); first | done | rfl | (simp only [List.length_drop, List.length_take]; rfl)) ?_; (with_reducible refine (va_Join.calls t124 t125 t126 _ A7.out).mono ?_); rintro e w' ⟨rfl, ⟨nd, rfl⟩⟩; refine ⟨_, rfl, ?_⟩) | ((with_reducible refine gate_callee (f := 18) rfl ?_); refine goesL_ (some 26) rfl rfl Try.func18 (by kernel_rfl) rfl #[.int .i64 (wrap64 (Int.tmod a1 512)), .int .i64 (wrap64 (Int.tmod a2 8))] rfl (by (try simp only [List.map_toArray, List.map_cons, List.map_nil]); first | done | rfl | (simp only [List.length_drop, List.length_take]; rfl)) ?_; (with_reducible refine (va_Join.calls (wrap64 (Int.tmod a1 512)) (wrap64 (Int.tmod a2 8)) t127 _ A8.out).mono ?_); rintro e w' ⟨rfl, ⟨nd, rfl⟩⟩; refine ⟨_, rfl, ?_⟩) | (go_at_call 10; (with_reducible refine (va_Canon.calls a0 true _ A10.out).mono ?_); rintro e w' ⟨rfl, ⟨nd, rfl⟩⟩) | (go_at_call 12; (with_reducible refine (va_Aligned.calls a0 t129 _ A12.out).mono ?_); rintro e w' ⟨rfl, ⟨nd, rfl⟩⟩) | (go_at_call 14; (with_reducible refine (va_Page.calls t127 t130 _ A14.out).mono ?_); rintro e w' ⟨rfl, ⟨nd, rfl⟩⟩) | (go_at_call 16; (with_reducible refine (va_Word.calls t127 t131 _ A16.out).mono ?_); rintro e w' ⟨rfl, ⟨nd, rfl⟩⟩) | (go_at_call 10; (with_reducible refine (va_Canon.calls t127 false _ A18.out).mono ?_); rintro e w' ⟨rfl, ⟨nd, rfl⟩⟩))
              go_ret
              exact ⟨by first | rfl | (simp; done) | (simp [*]; done), by repeat (first | exact Drawn0.refl _ | apply Drawn0.step)⟩
          · rw [if_neg c17] at H
            have c17b0 : (t131 == (wrap64 (Int.tmod a2 8))) = false := beq_eq_false_iff_ne.mpr c17
            have c17b1 : (t131 != (wrap64 (Int.tmod a2 8))) = true := bne_iff_ne.mpr c17
            obtain rfl := Option.some.inj H
            go_enter Try.func4, Try.ntmps4
            go_wp2_with (first | ((with_reducible refine gate_callee (f := 9) rfl ?_); refine goesL_ (some 12) rfl rfl Try.func9 (by kernel_rfl) rfl #[] rfl (by (try simp only [List.map_toArray, List.map_cons, List.map_nil]); first | done | rfl | (simp only [List.length_drop, List.length_take]; rfl)) ?_; (with_reducible refine (silhouettelaw05_head.calls  true _ A4.out).mono ?_); rintro e w' ⟨rfl, ⟨nd, rfl⟩⟩; refine ⟨_, rfl, ?_⟩) | ((with_reducible refine gate_callee (f := 14) rfl ?_); refine goesL_ (some 14) rfl rfl Try.func14 (by kernel_rfl) rfl #[.int .u64 a0] rfl (by (try simp only [List.map_toArray, List.map_cons, List.map_nil]); first | done | rfl | (simp only [List.length_drop, List.length_take]; rfl)) ?_; (with_reducible refine (va_Page.calls a0 t124 _ A5.out).mono ?_); rintro e w' ⟨rfl, ⟨nd, rfl⟩⟩; refine ⟨_, rfl, ?_⟩) | ((with_reducible refine gate_callee (f := 16) rfl ?_); refine goesL_ (some 16) rfl rfl Try.func16 (by kernel_rfl) rfl #[.int .u64 a0] rfl (by (try simp only [List.map_toArray, List.map_cons, List.map_nil]); first | done | rfl | (simp only [List.length_drop, List.length_take]; rfl)) ?_; (with_reducible refine (va_Word.calls a0 t125 _ A6.out).mono ?_); rintro e w' ⟨rfl, ⟨nd, rfl⟩⟩; refine ⟨_, rfl, ?_⟩) | ((with_reducible refine gate_callee (f := 18) rfl ?_); refine goesL_ (some 17) rfl rfl Try.func18 (by kernel_rfl) rfl #[.int .i64 t124, .int .i64 t125] rfl (by (try simp only [List.map_toArray, List.map_cons, List.map_nil]); first | done | rfl | (simp only [List.length_drop, List.length_take]; rfl)) ?_; (with_reducible refine (va_Join.calls t124 t125 t126 _ A7.out).mono ?_); rintro e w' ⟨rfl, ⟨nd, rfl⟩⟩; refine ⟨_, rfl, ?_⟩) | ((with_reducible refine gate_callee (f := 18) rfl ?_); refine goesL_ (some 26) rfl rfl Try.func18 (by kernel_rfl) rfl #[.int .i64 (wrap64 (Int.tmod a1 512)), .int .i64 (wrap64 (Int.tmod a2 8))] rfl (by (try simp only [List.map_toArray, List.map_cons, List.map_nil]); first | done | rfl | (simp only [List.length_drop, List.length_take]; rfl)) ?_; (with_reducible refine (va_Join.calls (wrap64 (Int.tmod a1 512)) (wrap64 (Int.tmod a2 8)) t127 _ A8.out).mono ?_); rintro e w' ⟨rfl, ⟨nd, rfl⟩⟩; refine ⟨_, rfl, ?_⟩) | (go_at_call 10; (with_reducible refine (va_Canon.calls a0 true _ A10.out).mono ?_); rintro e w' ⟨rfl, ⟨nd, rfl⟩⟩) | (go_at_call 12; (with_reducible refine (va_Aligned.calls a0 t129 _ A12.out).mono ?_); rintro e w' ⟨rfl, ⟨nd, rfl⟩⟩) | (go_at_call 14; (with_reducible refine (va_Page.calls t127 t130 _ A14.out).mono ?_); rintro e w' ⟨rfl, ⟨nd, rfl⟩⟩) | (go_at_call 16; (with_reducible refine (va_Word.calls t127 t131 _ A16.out).mono ?_); rintro e w' ⟨rfl, ⟨nd, rfl⟩⟩))
            go_ret
            exact ⟨by first | rfl | (simp; done) | (simp [*]; done), by repeat (first | exact Drawn0.refl _ | apply Drawn0.step)⟩
        · rw [if_neg c15] at H
          have c15b0 : (t130 == (wrap64 (Int.tmod a1 512))) = false := beq_eq_false_iff_ne.mpr c15
          have c15b1 : (t130 != (wrap64 (Int.tmod a1 512))) = true := bne_iff_ne.mpr c15
          obtain rfl := Option.some.inj H
          go_enter Try.func4, Try.ntmps4
          go_wp2_with (first | ((with_reducible refine gate_callee (f := 9) rfl ?_); refine goesL_ (some 12) rfl rfl Try.func9 (by kernel_rfl) rfl #[] rfl (by (try simp only [List.map_toArray, List.map_cons, List.map_nil]); first | done | rfl | (simp only [List.length_drop, List.length_take]; rfl)) ?_; (with_reducible refine (silhouettelaw05_head.calls  true _ A4.out).mono ?_); rintro e w' ⟨rfl, ⟨nd, rfl⟩⟩; refine ⟨_, rfl, ?_⟩) | ((with_reducible refine gate_callee (f := 14) rfl ?_); refine goesL_ (some 14) rfl rfl Try.func14 (by kernel_rfl) rfl #[.int .u64 a0] rfl (by (try simp only [List.map_toArray, List.map_cons, List.map_nil]); first | done | rfl | (simp only [List.length_drop, List.length_take]; rfl)) ?_; (with_reducible refine (va_Page.calls a0 t124 _ A5.out).mono ?_); rintro e w' ⟨rfl, ⟨nd, rfl⟩⟩; refine ⟨_, rfl, ?_⟩) | ((with_reducible refine gate_callee (f := 16) rfl ?_); refine goesL_ (some 16) rfl rfl Try.func16 (by kernel_rfl) rfl #[.int .u64 a0] rfl (by (try simp only [List.map_toArray, List.map_cons, List.map_nil]); first | done | rfl | (simp only [List.length_drop, List.length_take]; rfl)) ?_; (with_reducible refine (va_Word.calls a0 t125 _ A6.out).mono ?_); rintro e w' ⟨rfl, ⟨nd, rfl⟩⟩; refine ⟨_, rfl, ?_⟩) | ((with_reducible refine gate_callee (f := 18) rfl ?_); refine goesL_ (some 17) rfl rfl Try.func18 (by kernel_rfl) rfl #[.int .i64 t124, .int .i64 t125] rfl (by (try simp only [List.map_toArray, List.map_cons, List.map_nil]); first | done | rfl | (simp only [List.length_drop, List.length_take]; rfl)) ?_; (with_reducible refine (va_Join.calls t124 t125 t126 _ A7.out).mono ?_); rintro e w' ⟨rfl, ⟨nd, rfl⟩⟩; refine ⟨_, rfl, ?_⟩) | ((with_reducible refine gate_callee (f := 18) rfl ?_); refine goesL_ (some 26) rfl rfl Try.func18 (by kernel_rfl) rfl #[.int .i64 (wrap64 (Int.tmod a1 512)), .int .i64 (wrap64 (Int.tmod a2 8))] rfl (by (try simp only [List.map_toArray, List.map_cons, List.map_nil]); first | done | rfl | (simp only [List.length_drop, List.length_take]; rfl)) ?_; (with_reducible refine (va_Join.calls (wrap64 (Int.tmod a1 512)) (wrap64 (Int.tmod a2 8)) t127 _ A8.out).mono ?_); rintro e w' ⟨rfl, ⟨nd, rfl⟩⟩; refine ⟨_, rfl, ?_⟩) | (go_at_call 10; (with_reducible refine (va_Canon.calls a0 true _ A10.out).mono ?_); rintro e w' ⟨rfl, ⟨nd, rfl⟩⟩) | (go_at_call 12; (with_reducible refine (va_Aligned.calls a0 t129 _ A12.out).mono ?_); rintro e w' ⟨rfl, ⟨nd, rfl⟩⟩) | (go_at_call 14; (with_reducible refine (va_Page.calls t127 t130 _ A14.out).mono ?_); rintro e w' ⟨rfl, ⟨nd, rfl⟩⟩))
          go_ret
          exact ⟨by first | rfl | (simp; done) | (simp [*]; done), by repeat (first | exact Drawn0.refl _ | apply Drawn0.step)⟩
      · rw [if_neg c13] at H
        have c13b0 : ((t126 == a0) == t129) = false := by simpa using c13
        (try (have c13b1 : decide ((t126 == a0) = t129) = false := by simpa using c13))
        (try (have c13b2 : ((t126 == a0) == t129) = false := by simpa using c13))
        (try (have c13b3 : ¬ ((t126 == a0) = t129) := by simpa using c13))
        clear c13
        obtain rfl := Option.some.inj H
        go_enter Try.func4, Try.ntmps4
        go_wp2_with (first | ((with_reducible refine gate_callee (f := 9) rfl ?_); refine goesL_ (some 12) rfl rfl Try.func9 (by kernel_rfl) rfl #[] rfl (by (try simp only [List.map_toArray, List.map_cons, List.map_nil]); first | done | rfl | (simp only [List.length_drop, List.length_take]; rfl)) ?_; (with_reducible refine (silhouettelaw05_head.calls  true _ A4.out).mono ?_); rintro e w' ⟨rfl, ⟨nd, rfl⟩⟩; refine ⟨_, rfl, ?_⟩) | ((with_reducible refine gate_callee (f := 14) rfl ?_); refine goesL_ (some 14) rfl rfl Try.func14 (by kernel_rfl) rfl #[.int .u64 a0] rfl (by (try simp only [List.map_toArray, List.map_cons, List.map_nil]); first | done | rfl | (simp only [List.length_drop, List.length_take]; rfl)) ?_; (with_reducible refine (va_Page.calls a0 t124 _ A5.out).mono ?_); rintro e w' ⟨rfl, ⟨nd, rfl⟩⟩; refine ⟨_, rfl, ?_⟩) | ((with_reducible refine gate_callee (f := 16) rfl ?_); refine goesL_ (some 16) rfl rfl Try.func16 (by kernel_rfl) rfl #[.int .u64 a0] rfl (by (try simp only [List.map_toArray, List.map_cons, List.map_nil]); first | done | rfl | (simp only [List.length_drop, List.length_take]; rfl)) ?_; (with_reducible refine (va_Word.calls a0 t125 _ A6.out).mono ?_); rintro e w' ⟨rfl, ⟨nd, rfl⟩⟩; refine ⟨_, rfl, ?_⟩) | ((with_reducible refine gate_callee (f := 18) rfl ?_); refine goesL_ (some 17) rfl rfl Try.func18 (by kernel_rfl) rfl #[.int .i64 t124, .int .i64 t125] rfl (by (try simp only [List.map_toArray, List.map_cons, List.map_nil]); first | done | rfl | (simp only [List.length_drop, List.length_take]; rfl)) ?_; (with_reducible refine (va_Join.calls t124 t125 t126 _ A7.out).mono ?_); rintro e w' ⟨rfl, ⟨nd, rfl⟩⟩; refine ⟨_, rfl, ?_⟩) | ((with_reducible refine gate_callee (f := 18) rfl ?_); refine goesL_ (some 26) rfl rfl Try.func18 (by kernel_rfl) rfl #[.int .i64 (wrap64 (Int.tmod a1 512)), .int .i64 (wrap64 (Int.tmod a2 8))] rfl (by (try simp only [List.map_toArray, List.map_cons, List.map_nil]); first | done | rfl | (simp only [List.length_drop, List.length_take]; rfl)) ?_; (with_reducible refine (va_Join.calls (wrap64 (Int.tmod a1 512)) (wrap64 (Int.tmod a2 8)) t127 _ A8.out).mono ?_); rintro e w' ⟨rfl, ⟨nd, rfl⟩⟩; refine ⟨_, rfl, ?_⟩) | (go_at_call 10; (with_reducible refine (va_Canon.calls a0 true _ A10.out).mono ?_); rintro e w' ⟨rfl, ⟨nd, rfl⟩⟩) | (go_at_call 12; (with_reducible refine (va_Aligned.calls a0 t129 _ A12.out).mono ?_); rintro e w' ⟨rfl, ⟨nd, rfl⟩⟩))
        go_ret
        exact ⟨by first | rfl | (simp; done) | (simp [*]; done), by repeat (first | exact Drawn0.refl _ | apply Drawn0.step)⟩
    · replace c11 := Bool.eq_false_iff.mpr c11
      subst c11
      have H1 : (if ((t126 == a0) == false) = true then ((va_Page.f t127).bind fun t134 => (if t134 = (wrap64 (Int.tmod a1 512)) then ((va_Word.f t127).bind fun t135 => (if t135 = (wrap64 (Int.tmod a2 8)) then ((va_Canon.f t127).bind fun t136 => (if t136 = true then ((va_Aligned.f t127).bind fun t137 => (some t137)) else (some false))) else (some false))) else (some false))) else (some false)) = some r := by rw [if_neg (show ¬ (false = true) by decide)] at H; exact H
      clear H
      have H := H1
      clear H1
      by_cases c21 : ((t126 == a0) == false) = true
      · rw [if_pos c21] at H
        have c21b0 : ((t126 == a0) == false) = true := c21
        (try (have c21b1 : decide ((t126 == a0) = false) = true := by simpa using c21))
        (try (have c21b2 : ((t126 == a0) == false) = true := by simpa using c21))
        clear c21
        replace H := Option.bind_eq_some_iff.mp H
        obtain ⟨t134, A220, H⟩ := H
        replace H : (if t134 = (wrap64 (Int.tmod a1 512)) then ((va_Word.f t127).bind fun t135 => (if t135 = (wrap64 (Int.tmod a2 8)) then ((va_Canon.f t127).bind fun t136 => (if t136 = true then ((va_Aligned.f t127).bind fun t137 => (some t137)) else (some false))) else (some false))) else (some false)) = some r := H
        have A22 := Aside0.mk A220
        clear A220
        by_cases c23 : t134 = (wrap64 (Int.tmod a1 512))
        · rw [if_pos c23] at H
          have c23b0 : (t134 == (wrap64 (Int.tmod a1 512))) = true := beq_iff_eq.mpr c23
          have c23b1 : (t134 != (wrap64 (Int.tmod a1 512))) = false := bne_eq_false_iff_eq.mpr c23
          clear c23
          replace H := Option.bind_eq_some_iff.mp H
          obtain ⟨t135, A240, H⟩ := H
          replace H : (if t135 = (wrap64 (Int.tmod a2 8)) then ((va_Canon.f t127).bind fun t136 => (if t136 = true then ((va_Aligned.f t127).bind fun t137 => (some t137)) else (some false))) else (some false)) = some r := H
          have A24 := Aside0.mk A240
          clear A240
          by_cases c25 : t135 = (wrap64 (Int.tmod a2 8))
          · rw [if_pos c25] at H
            have c25b0 : (t135 == (wrap64 (Int.tmod a2 8))) = true := beq_iff_eq.mpr c25
            have c25b1 : (t135 != (wrap64 (Int.tmod a2 8))) = false := bne_eq_false_iff_eq.mpr c25
            clear c25
            replace H := Option.bind_eq_some_iff.mp H
            obtain ⟨t136, A260, H⟩ := H
            replace H : (if t136 = true then ((va_Aligned.f t127).bind fun t137 => (some t137)) else (some false)) = some r := H
            have A26 := Aside0.mk A260
            clear A260
            by_cases c27 : t136 = true
            · subst c27
              have H1 : ((va_Aligned.f t127).bind fun t137 => (some t137)) = some r := by rw [if_pos rfl] at H; exact H
              clear H
              have H := H1
              clear H1
              replace H := Option.bind_eq_some_iff.mp H
              obtain ⟨t137, A280, H⟩ := H
              replace H : (some t137) = some r := H
              have A28 := Aside0.mk A280
              clear A280
              obtain rfl := Option.some.inj H
              go_enter Try.func4, Try.ntmps4
              go_wp2_with (first | ((with_reducible refine gate_callee (f := 9) rfl ?_); refine goesL_ (some 12) rfl rfl Try.func9 (by kernel_rfl) rfl #[] rfl (by (try simp only [List.map_toArray, List.map_cons, List.map_nil]); first | done | rfl | (simp only [List.length_drop, List.length_take]; rfl)) ?_; (with_reducible refine (silhouettelaw05_head.calls  true _ A4.out).mono ?_); rintro e w' ⟨rfl, ⟨nd, rfl⟩⟩; refine ⟨_, rfl, ?_⟩) | ((with_reducible refine gate_callee (f := 14) rfl ?_); refine goesL_ (some 14) rfl rfl Try.func14 (by kernel_rfl) rfl #[.int .u64 a0] rfl (by (try simp only [List.map_toArray, List.map_cons, List.map_nil]); first | done | rfl | (simp only [List.length_drop, List.length_take]; rfl)) ?_; (with_reducible refine (va_Page.calls a0 t124 _ A5.out).mono ?_); rintro e w' ⟨rfl, ⟨nd, rfl⟩⟩; refine ⟨_, rfl, ?_⟩) | ((with_reducible refine gate_callee (f := 16) rfl ?_); refine goesL_ (some 16) rfl rfl Try.func16 (by kernel_rfl) rfl #[.int .u64 a0] rfl (by (try simp only [List.map_toArray, List.map_cons, List.map_nil]); first | done | rfl | (simp only [List.length_drop, List.length_take]; rfl)) ?_; (with_reducible refine (va_Word.calls a0 t125 _ A6.out).mono ?_); rintro e w' ⟨rfl, ⟨nd, rfl⟩⟩; refine ⟨_, rfl, ?_⟩) | ((with_reducible refine gate_callee (f := 18) rfl ?_); refine goesL_ (some 17) rfl rfl Try.func18 (by kernel_rfl) rfl #[.int .i64 t124, .int .i64 t125] rfl (by (try simp only [List.map_toArray, List.map_cons, List.map_nil]); first | done | rfl | (simp only [List.length_drop, List.length_take]; rfl)) ?_; (with_reducible refine (va_Join.calls t124 t125 t126 _ A7.out).mono ?_); rintro e w' ⟨rfl, ⟨nd, rfl⟩⟩; refine ⟨_, rfl, ?_⟩) | ((with_reducible refine gate_callee (f := 18) rfl ?_); refine goesL_ (some 26) rfl rfl Try.func18 (by kernel_rfl) rfl #[.int .i64 (wrap64 (Int.tmod a1 512)), .int .i64 (wrap64 (Int.tmod a2 8))] rfl (by (try simp only [List.map_toArray, List.map_cons, List.map_nil]); first | done | rfl | (simp only [List.length_drop, List.length_take]; rfl)) ?_; (with_reducible refine (va_Join.calls (wrap64 (Int.tmod a1 512)) (wrap64 (Int.tmod a2 8)) t127 _ A8.out).mono ?_); rintro e w' ⟨rfl, ⟨nd, rfl⟩⟩; refine ⟨_, rfl, ?_⟩) | (go_at_call 10; (with_reducible refine (va_Canon.calls a0 false _ A10.out).mono ?_); rintro e w' ⟨rfl, ⟨nd, rfl⟩⟩) | (go_at_call 14; (with_reducible refine (va_Page.calls t127 t134 _ A22.out).mono ?_); rintro e w' ⟨rfl, ⟨nd, rfl⟩⟩) | (go_at_call 16; (with_reducible refine (va_Word.calls t127 t135 _ A24.out).mono ?_); rintro e w' ⟨rfl, ⟨nd, rfl⟩⟩) | (go_at_call 10; (with_reducible refine (va_Canon.calls t127 true _ A26.out).mono ?_); rintro e w' ⟨rfl, ⟨nd, rfl⟩⟩) | (go_at_call 12; (with_reducible refine (va_Aligned.calls t127 t137 _ A28.out).mono ?_); rintro e w' ⟨rfl, ⟨nd, rfl⟩⟩))
              go_ret
              exact ⟨by first | rfl | (simp; done) | (simp [*]; done), by repeat (first | exact Drawn0.refl _ | apply Drawn0.step)⟩
            · replace c27 := Bool.eq_false_iff.mpr c27
              subst c27
              have H1 : (some false) = some r := by rw [if_neg (show ¬ (false = true) by decide)] at H; exact H
              clear H
              have H := H1
              clear H1
              obtain rfl := Option.some.inj H
              go_enter Try.func4, Try.ntmps4
              go_wp2_with (first | ((with_reducible refine gate_callee (f := 9) rfl ?_); refine goesL_ (some 12) rfl rfl Try.func9 (by kernel_rfl) rfl #[] rfl (by (try simp only [List.map_toArray, List.map_cons, List.map_nil]); first | done | rfl | (simp only [List.length_drop, List.length_take]; rfl)) ?_; (with_reducible refine (silhouettelaw05_head.calls  true _ A4.out).mono ?_); rintro e w' ⟨rfl, ⟨nd, rfl⟩⟩; refine ⟨_, rfl, ?_⟩) | ((with_reducible refine gate_callee (f := 14) rfl ?_); refine goesL_ (some 14) rfl rfl Try.func14 (by kernel_rfl) rfl #[.int .u64 a0] rfl (by (try simp only [List.map_toArray, List.map_cons, List.map_nil]); first | done | rfl | (simp only [List.length_drop, List.length_take]; rfl)) ?_; (with_reducible refine (va_Page.calls a0 t124 _ A5.out).mono ?_); rintro e w' ⟨rfl, ⟨nd, rfl⟩⟩; refine ⟨_, rfl, ?_⟩) | ((with_reducible refine gate_callee (f := 16) rfl ?_); refine goesL_ (some 16) rfl rfl Try.func16 (by kernel_rfl) rfl #[.int .u64 a0] rfl (by (try simp only [List.map_toArray, List.map_cons, List.map_nil]); first | done | rfl | (simp only [List.length_drop, List.length_take]; rfl)) ?_; (with_reducible refine (va_Word.calls a0 t125 _ A6.out).mono ?_); rintro e w' ⟨rfl, ⟨nd, rfl⟩⟩; refine ⟨_, rfl, ?_⟩) | ((with_reducible refine gate_callee (f := 18) rfl ?_); refine goesL_ (some 17) rfl rfl Try.func18 (by kernel_rfl) rfl #[.int .i64 t124, .int .i64 t125] rfl (by (try simp only [List.map_toArray, List.map_cons, List.map_nil]); first | done | rfl | (simp only [List.length_drop, List.length_take]; rfl)) ?_; (with_reducible refine (va_Join.calls t124 t125 t126 _ A7.out).mono ?_); rintro e w' ⟨rfl, ⟨nd, rfl⟩⟩; refine ⟨_, rfl, ?_⟩) | ((with_reducible refine gate_callee (f := 18) rfl ?_); refine goesL_ (some 26) rfl rfl Try.func18 (by kernel_rfl) rfl #[.int .i64 (wrap64 (Int.tmod a1 512)), .int .i64 (wrap64 (Int.tmod a2 8))] rfl (by (try simp only [List.map_toArray, List.map_cons, List.map_nil]); first | done | rfl | (simp only [List.length_drop, List.length_take]; rfl)) ?_; (with_reducible refine (va_Join.calls (wrap64 (Int.tmod a1 512)) (wrap64 (Int.tmod a2 8)) t127 _ A8.out).mono ?_); rintro e w' ⟨rfl, ⟨nd, rfl⟩⟩; refine ⟨_, rfl, ?_⟩) | (go_at_call 10; (with_reducible refine (va_Canon.calls a0 false _ A10.out).mono ?_); rintro e w' ⟨rfl, ⟨nd, rfl⟩⟩) | (go_at_call 14; (with_reducible refine (va_Page.calls t127 t134 _ A22.out).mono ?_); rintro e w' ⟨rfl, ⟨nd, rfl⟩⟩) | (go_at_call 16; (with_reducible refine (va_Word.calls t127 t135 _ A24.out).mono ?_); rintro e w' ⟨rfl, ⟨nd, rfl⟩⟩) | (go_at_call 10; (with_reducible refine (va_Canon.calls t127 false _ A26.out).mono ?_); rintro e w' ⟨rfl, ⟨nd, rfl⟩⟩))
              go_ret
              exact ⟨by first | rfl | (simp; done) | (simp [*]; done), by repeat (first | exact Drawn0.refl _ | apply Drawn0.step)⟩
          · rw [if_neg c25] at H
            have c25b0 : (t135 == (wrap64 (Int.tmod a2 8))) = false := beq_eq_false_iff_ne.mpr c25
            have c25b1 : (t135 != (wrap64 (Int.tmod a2 8))) = true := bne_iff_ne.mpr c25
            obtain rfl := Option.some.inj H
            go_enter Try.func4, Try.ntmps4
            go_wp2_with (first | ((with_reducible refine gate_callee (f := 9) rfl ?_); refine goesL_ (some 12) rfl rfl Try.func9 (by kernel_rfl) rfl #[] rfl (by (try simp only [List.map_toArray, List.map_cons, List.map_nil]); first | done | rfl | (simp only [List.length_drop, List.length_take]; rfl)) ?_; (with_reducible refine (silhouettelaw05_head.calls  true _ A4.out).mono ?_); rintro e w' ⟨rfl, ⟨nd, rfl⟩⟩; refine ⟨_, rfl, ?_⟩) | ((with_reducible refine gate_callee (f := 14) rfl ?_); refine goesL_ (some 14) rfl rfl Try.func14 (by kernel_rfl) rfl #[.int .u64 a0] rfl (by (try simp only [List.map_toArray, List.map_cons, List.map_nil]); first | done | rfl | (simp only [List.length_drop, List.length_take]; rfl)) ?_; (with_reducible refine (va_Page.calls a0 t124 _ A5.out).mono ?_); rintro e w' ⟨rfl, ⟨nd, rfl⟩⟩; refine ⟨_, rfl, ?_⟩) | ((with_reducible refine gate_callee (f := 16) rfl ?_); refine goesL_ (some 16) rfl rfl Try.func16 (by kernel_rfl) rfl #[.int .u64 a0] rfl (by (try simp only [List.map_toArray, List.map_cons, List.map_nil]); first | done | rfl | (simp only [List.length_drop, List.length_take]; rfl)) ?_; (with_reducible refine (va_Word.calls a0 t125 _ A6.out).mono ?_); rintro e w' ⟨rfl, ⟨nd, rfl⟩⟩; refine ⟨_, rfl, ?_⟩) | ((with_reducible refine gate_callee (f := 18) rfl ?_); refine goesL_ (some 17) rfl rfl Try.func18 (by kernel_rfl) rfl #[.int .i64 t124, .int .i64 t125] rfl (by (try simp only [List.map_toArray, List.map_cons, List.map_nil]); first | done | rfl | (simp only [List.length_drop, List.length_take]; rfl)) ?_; (with_reducible refine (va_Join.calls t124 t125 t126 _ A7.out).mono ?_); rintro e w' ⟨rfl, ⟨nd, rfl⟩⟩; refine ⟨_, rfl, ?_⟩) | ((with_reducible refine gate_callee (f := 18) rfl ?_); refine goesL_ (some 26) rfl rfl Try.func18 (by kernel_rfl) rfl #[.int .i64 (wrap64 (Int.tmod a1 512)), .int .i64 (wrap64 (Int.tmod a2 8))] rfl (by (try simp only [List.map_toArray, List.map_cons, List.map_nil]); first | done | rfl | (simp only [List.length_drop, List.length_take]; rfl)) ?_; (with_reducible refine (va_Join.calls (wrap64 (Int.tmod a1 512)) (wrap64 (Int.tmod a2 8)) t127 _ A8.out).mono ?_); rintro e w' ⟨rfl, ⟨nd, rfl⟩⟩; refine ⟨_, rfl, ?_⟩) | (go_at_call 10; (with_reducible refine (va_Canon.calls a0 false _ A10.out).mono ?_); rintro e w' ⟨rfl, ⟨nd, rfl⟩⟩) | (go_at_call 14; (with_reducible refine (va_Page.calls t127 t134 _ A22.out).mono ?_); rintro e w' ⟨rfl, ⟨nd, rfl⟩⟩) | (go_at_call 16; (with_reducible refine (va_Word.calls t127 t135 _ A24.out).mono ?_); rintro e w' ⟨rfl, ⟨nd, rfl⟩⟩))
            go_ret
            exact ⟨by first | rfl | (simp; done) | (simp [*]; done), by repeat (first | exact Drawn0.refl _ | apply Drawn0.step)⟩
        · rw [if_neg c23] at H
          have c23b0 : (t134 == (wrap64 (Int.tmod a1 512))) = false := beq_eq_false_iff_ne.mpr c23
          have c23b1 : (t134 != (wrap64 (Int.tmod a1 512))) = true := bne_iff_ne.mpr c23
          obtain rfl := Option.some.inj H
          go_enter Try.func4, Try.ntmps4
          go_wp2_with (first | ((with_reducible refine gate_callee (f := 9) rfl ?_); refine goesL_ (some 12) rfl rfl Try.func9 (by kernel_rfl) rfl #[] rfl (by (try simp only [List.map_toArray, List.map_cons, List.map_nil]); first | done | rfl | (simp only [List.length_drop, List.length_take]; rfl)) ?_; (with_reducible refine (silhouettelaw05_head.calls  true _ A4.out).mono ?_); rintro e w' ⟨rfl, ⟨nd, rfl⟩⟩; refine ⟨_, rfl, ?_⟩) | ((with_reducible refine gate_callee (f := 14) rfl ?_); refine goesL_ (some 14) rfl rfl Try.func14 (by kernel_rfl) rfl #[.int .u64 a0] rfl (by (try simp only [List.map_toArray, List.map_cons, List.map_nil]); first | done | rfl | (simp only [List.length_drop, List.length_take]; rfl)) ?_; (with_reducible refine (va_Page.calls a0 t124 _ A5.out).mono ?_); rintro e w' ⟨rfl, ⟨nd, rfl⟩⟩; refine ⟨_, rfl, ?_⟩) | ((with_reducible refine gate_callee (f := 16) rfl ?_); refine goesL_ (some 16) rfl rfl Try.func16 (by kernel_rfl) rfl #[.int .u64 a0] rfl (by (try simp only [List.map_toArray, List.map_cons, List.map_nil]); first | done | rfl | (simp only [List.length_drop, List.length_take]; rfl)) ?_; (with_reducible refine (va_Word.calls a0 t125 _ A6.out).mono ?_); rintro e w' ⟨rfl, ⟨nd, rfl⟩⟩; refine ⟨_, rfl, ?_⟩) | ((with_reducible refine gate_callee (f := 18) rfl ?_); refine goesL_ (some 17) rfl rfl Try.func18 (by kernel_rfl) rfl #[.int .i64 t124, .int .i64 t125] rfl (by (try simp only [List.map_toArray, List.map_cons, List.map_nil]); first | done | rfl | (simp only [List.length_drop, List.length_take]; rfl)) ?_; (with_reducible refine (va_Join.calls t124 t125 t126 _ A7.out).mono ?_); rintro e w' ⟨rfl, ⟨nd, rfl⟩⟩; refine ⟨_, rfl, ?_⟩) | ((with_reducible refine gate_callee (f := 18) rfl ?_); refine goesL_ (some 26) rfl rfl Try.func18 (by kernel_rfl) rfl #[.int .i64 (wrap64 (Int.tmod a1 512)), .int .i64 (wrap64 (Int.tmod a2 8))] rfl (by (try simp only [List.map_toArray, List.map_cons, List.map_nil]); first | done | rfl | (simp only [List.length_drop, List.length_take]; rfl)) ?_; (with_reducible refine (va_Join.calls (wrap64 (Int.tmod a1 512)) (wrap64 (Int.tmod a2 8)) t127 _ A8.out).mono ?_); rintro e w' ⟨rfl, ⟨nd, rfl⟩⟩; refine ⟨_, rfl, ?_⟩) | (go_at_call 10; (with_reducible refine (va_Canon.calls a0 false _ A10.out).mono ?_); rintro e w' ⟨rfl, ⟨nd, rfl⟩⟩) | (go_at_call 14; (with_reducible refine (va_Page.calls t127 t134 _ A22.out).mono ?_); rintro e w' ⟨rfl, ⟨nd, rfl⟩⟩))
          go_ret
          exact ⟨by first | rfl | (simp; done) | (simp [*]; done), by repeat (first | exact Drawn0.refl _ | apply Drawn0.step)⟩
      · rw [if_neg c21] at H
        have c21b0 : ((t126 == a0) == false) = false := by simpa using c21
        (try (have c21b1 : decide ((t126 == a0) = false) = false := by simpa using c21))
        (try (have c21b2 : ((t126 == a0) == false) = false := by simpa using c21))
        (try (have c21b3 : ¬ ((t126 == a0) = false) := by simpa using c21))
        clear c21
        obtain rfl := Option.some.inj H
        go_enter Try.func4, Try.ntmps4
        go_wp2_with (first | ((with_reducible refine gate_callee (f := 9) rfl ?_); refine goesL_ (some 12) rfl rfl Try.func9 (by kernel_rfl) rfl #[] rfl (by (try simp only [List.map_toArray, List.map_cons, List.map_nil]); first | done | rfl | (simp only [List.length_drop, List.length_take]; rfl)) ?_; (with_reducible refine (silhouettelaw05_head.calls  true _ A4.out).mono ?_); rintro e w' ⟨rfl, ⟨nd, rfl⟩⟩; refine ⟨_, rfl, ?_⟩) | ((with_reducible refine gate_callee (f := 14) rfl ?_); refine goesL_ (some 14) rfl rfl Try.func14 (by kernel_rfl) rfl #[.int .u64 a0] rfl (by (try simp only [List.map_toArray, List.map_cons, List.map_nil]); first | done | rfl | (simp only [List.length_drop, List.length_take]; rfl)) ?_; (with_reducible refine (va_Page.calls a0 t124 _ A5.out).mono ?_); rintro e w' ⟨rfl, ⟨nd, rfl⟩⟩; refine ⟨_, rfl, ?_⟩) | ((with_reducible refine gate_callee (f := 16) rfl ?_); refine goesL_ (some 16) rfl rfl Try.func16 (by kernel_rfl) rfl #[.int .u64 a0] rfl (by (try simp only [List.map_toArray, List.map_cons, List.map_nil]); first | done | rfl | (simp only [List.length_drop, List.length_take]; rfl)) ?_; (with_reducible refine (va_Word.calls a0 t125 _ A6.out).mono ?_); rintro e w' ⟨rfl, ⟨nd, rfl⟩⟩; refine ⟨_, rfl, ?_⟩) | ((with_reducible refine gate_callee (f := 18) rfl ?_); refine goesL_ (some 17) rfl rfl Try.func18 (by kernel_rfl) rfl #[.int .i64 t124, .int .i64 t125] rfl (by (try simp only [List.map_toArray, List.map_cons, List.map_nil]); first | done | rfl | (simp only [List.length_drop, List.length_take]; rfl)) ?_; (with_reducible refine (va_Join.calls t124 t125 t126 _ A7.out).mono ?_); rintro e w' ⟨rfl, ⟨nd, rfl⟩⟩; refine ⟨_, rfl, ?_⟩) | ((with_reducible refine gate_callee (f := 18) rfl ?_); refine goesL_ (some 26) rfl rfl Try.func18 (by kernel_rfl) rfl #[.int .i64 (wrap64 (Int.tmod a1 512)), .int .i64 (wrap64 (Int.tmod a2 8))] rfl (by (try simp only [List.map_toArray, List.map_cons, List.map_nil]); first | done | rfl | (simp only [List.length_drop, List.length_take]; rfl)) ?_; (with_reducible refine (va_Join.calls (wrap64 (Int.tmod a1 512)) (wrap64 (Int.tmod a2 8)) t127 _ A8.out).mono ?_); rintro e w' ⟨rfl, ⟨nd, rfl⟩⟩; refine ⟨_, rfl, ?_⟩) | (go_at_call 10; (with_reducible refine (va_Canon.calls a0 false _ A10.out).mono ?_); rintro e w' ⟨rfl, ⟨nd, rfl⟩⟩))
        go_ret
        exact ⟨by first | rfl | (simp; done) | (simp [*]; done), by repeat (first | exact Drawn0.refl _ | apply Drawn0.step)⟩
  · replace c9 := Bool.eq_false_iff.mpr c9
    subst c9
    have H1 : (some false) = some r := by rw [if_neg (show ¬ (false = true) by decide)] at H; exact H
    clear H
    have H := H1
    clear H1
    obtain rfl := Option.some.inj H
    go_enter Try.func4, Try.ntmps4
    go_wp2_with (first | ((with_reducible refine gate_callee (f := 9) rfl ?_); refine goesL_ (some 12) rfl rfl Try.func9 (by kernel_rfl) rfl #[] rfl (by (try simp only [List.map_toArray, List.map_cons, List.map_nil]); first | done | rfl | (simp only [List.length_drop, List.length_take]; rfl)) ?_; (with_reducible refine (silhouettelaw05_head.calls  false _ A4.out).mono ?_); rintro e w' ⟨rfl, ⟨nd, rfl⟩⟩; refine ⟨_, rfl, ?_⟩) | ((with_reducible refine gate_callee (f := 14) rfl ?_); refine goesL_ (some 14) rfl rfl Try.func14 (by kernel_rfl) rfl #[.int .u64 a0] rfl (by (try simp only [List.map_toArray, List.map_cons, List.map_nil]); first | done | rfl | (simp only [List.length_drop, List.length_take]; rfl)) ?_; (with_reducible refine (va_Page.calls a0 t124 _ A5.out).mono ?_); rintro e w' ⟨rfl, ⟨nd, rfl⟩⟩; refine ⟨_, rfl, ?_⟩) | ((with_reducible refine gate_callee (f := 16) rfl ?_); refine goesL_ (some 16) rfl rfl Try.func16 (by kernel_rfl) rfl #[.int .u64 a0] rfl (by (try simp only [List.map_toArray, List.map_cons, List.map_nil]); first | done | rfl | (simp only [List.length_drop, List.length_take]; rfl)) ?_; (with_reducible refine (va_Word.calls a0 t125 _ A6.out).mono ?_); rintro e w' ⟨rfl, ⟨nd, rfl⟩⟩; refine ⟨_, rfl, ?_⟩) | ((with_reducible refine gate_callee (f := 18) rfl ?_); refine goesL_ (some 17) rfl rfl Try.func18 (by kernel_rfl) rfl #[.int .i64 t124, .int .i64 t125] rfl (by (try simp only [List.map_toArray, List.map_cons, List.map_nil]); first | done | rfl | (simp only [List.length_drop, List.length_take]; rfl)) ?_; (with_reducible refine (va_Join.calls t124 t125 t126 _ A7.out).mono ?_); rintro e w' ⟨rfl, ⟨nd, rfl⟩⟩; refine ⟨_, rfl, ?_⟩) | ((with_reducible refine gate_callee (f := 18) rfl ?_); refine goesL_ (some 26) rfl rfl Try.func18 (by kernel_rfl) rfl #[.int .i64 (wrap64 (Int.tmod a1 512)), .int .i64 (wrap64 (Int.tmod a2 8))] rfl (by (try simp only [List.map_toArray, List.map_cons, List.map_nil]); first | done | rfl | (simp only [List.length_drop, List.length_take]; rfl)) ?_; (with_reducible refine (va_Join.calls (wrap64 (Int.tmod a1 512)) (wrap64 (Int.tmod a2 8)) t127 _ A8.out).mono ?_); rintro e w' ⟨rfl, ⟨nd, rfl⟩⟩; refine ⟨_, rfl, ?_⟩))
    go_ret
    exact ⟨by first | rfl | (simp; done) | (simp [*]; done), by repeat (first | exact Drawn0.refl _ | apply Drawn0.step)⟩

/-- THE ONE PURE STATEMENT of silhouettelaw05_VaBack: yours. -/
def silhouettelaw05_VaBack.Pure : Prop := ∀ (a0 : Int) (a1 : Int) (a2 : Int), (Lit.int .u64 a0).wf = true → (Lit.int .u16 a1).wf = true → (Lit.int .u8 a2).wf = true → silhouettelaw05_VaBack.f a0 a1 a2 = some true
theorem silhouettelaw05_VaBack.walk (P : silhouettelaw05_VaBack.Pure) (a0 : Int) (a1 : Int) (a2 : Int) (w : World) (w0 : (Lit.int .u64 a0).wf = true) (w1 : (Lit.int .u16 a1).wf = true) (w2 : (Lit.int .u8 a2).wf = true) :
    Calls Try.prog 4 #[.int .u64 a0, .int .u16 a1, .int .u8 a2] w fun e w' => e = .returned (.bool true) ∧ Below w.heap.size w w' := by
  have h := P a0 a1 a2 w0 w1 w2
  refine (silhouettelaw05_VaBack.calls a0 a1 a2 true w h).mono ?_
  rintro e w' ⟨rfl, hd⟩
  exact ⟨rfl, hd.below⟩

end Go.Proofs.Ytgnjmbmbdapkoaa.PVaBack
