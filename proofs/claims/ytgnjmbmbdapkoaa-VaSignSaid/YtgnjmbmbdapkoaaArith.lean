/- Plain laws of numbers for layer 5: masks, shifts, an address whose highest bit goes on. No program in sight. -/
import Derived.Test.YtgnjmbmbdapkoaaWMore
import Derived.Laws.BitsLemmas
namespace Go.Proofs.Ytgnjmbmbdapkoaa.Arith
open Go.RowKit Go.Proofs.YtgnjmbmbdapkoaaW.PrintWords Go.Proofs.YtgnjmbmbdapkoaaW.PrintLast Go.Proofs.YtgnjmbmbdapkoaaW.PrintMore

theorem wrap_u64 (n : Int) : IntKind.u64.wrap n = n % 18446744073709551616 := by simp [IntKind.wrap, IntKind.bits, IntKind.signed]

theorem wf_u64 {n : Int} (h : (Lit.int .u64 n).wf = true) : 0 ≤ n ∧ n < 18446744073709551616 := by
  simp [Lit.wf, IntKind.min, IntKind.max, IntKind.bits, IntKind.signed] at h; omega
theorem wf_u16 {n : Int} (h : (Lit.int .u16 n).wf = true) : 0 ≤ n ∧ n < 65536 := by
  simp [Lit.wf, IntKind.min, IntKind.max, IntKind.bits, IntKind.signed] at h; omega
theorem wf_u8 {n : Int} (h : (Lit.int .u8 n).wf = true) : 0 ≤ n ∧ n < 256 := by
  simp [Lit.wf, IntKind.min, IntKind.max, IntKind.bits, IntKind.signed] at h; omega
theorem wf_i64 {n : Int} (h : (Lit.int .i64 n).wf = true) : -9223372036854775808 ≤ n ∧ n < 9223372036854775808 := by
  simp [Lit.wf, IntKind.min, IntKind.max, IntKind.bits, IntKind.signed] at h; omega

theorem beq_t {a b : Int} (h : a = b) : (a == b) = true := by simp [h]
theorem beq_f {a b : Int} (h : ¬ a = b) : (a == b) = false := beq_eq_false_iff_ne.2 h

/-- A mask of the lowest bits, whatever the number is. -/
theorem mask_toNat (x : Int) (i : Nat) (hi : i ≤ 64) : ((BitVec.ofInt 64 x &&& BitVec.ofInt 64 (2 ^ i - 1)).toNat : Int) = x % 2 ^ i := by
  have hpos : 0 < 2 ^ i := Nat.two_pow_pos i
  have hc : ((2 : Int) ^ i - 1) = ((2 ^ i - 1 : Nat) : Int) := by rw [Int.natCast_sub hpos]; simp
  have hlt : 2 ^ i - 1 < 2 ^ 64 := Nat.lt_of_lt_of_le (Nat.sub_lt hpos (by decide)) (Nat.pow_le_pow_right (by decide) hi)
  rw [hc, BitVec.toNat_and, BitVec.ofInt_natCast, BitVec.toNat_ofNat, Nat.mod_eq_of_lt hlt, Nat.and_two_pow_sub_one_eq_mod, BitVec.toNat_ofInt]
  have h0 : 0 ≤ x % ((2 ^ 64 : Nat) : Int) := Int.emod_nonneg _ (by decide)
  rw [Int.natCast_emod, Int.toNat_of_nonneg h0]
  have hd : (((2 ^ i : Nat)) : Int) ∣ ((2 ^ 64 : Nat) : Int) := by
    rw [Int.natCast_dvd_natCast]; exact Nat.pow_dvd_pow 2 hi
  rw [Int.emod_emod_of_dvd _ hd]
  simp

theorem and_u64 (x : Int) (i : Nat) (hi : i ≤ 62) : Go.bits .and .u64 x (2 ^ i - 1) = x % 2 ^ i := by
  have h := mask_toNat x i (by omega)
  show IntKind.u64.wrap ((BitVec.ofInt 64 x &&& BitVec.ofInt 64 (2 ^ i - 1)).toNat : Int) = x % 2 ^ i
  rw [h, wrap_u64]
  have hp : (2 : Int) ^ i ≤ 2 ^ 62 := by
    have := Nat.pow_le_pow_right (n := 2) (by decide) hi
    exact_mod_cast this
  have h0 : (0 : Int) < 2 ^ i := by
    have := Nat.two_pow_pos i
    exact_mod_cast this
  have h1 := Int.emod_nonneg x (Int.ne_of_gt h0)
  have h2 := Int.emod_lt_of_pos x h0
  generalize x % 2 ^ i = y at *
  generalize (2 : Int) ^ i = p at *
  omega

theorem and_i64 (x : Int) (i : Nat) (hi : i ≤ 62) : Go.bits .and .i64 x (2 ^ i - 1) = x % 2 ^ i := by
  have h := mask_toNat x i (by omega)
  show IntKind.i64.wrap ((BitVec.ofInt 64 x &&& BitVec.ofInt 64 (2 ^ i - 1)).toNat : Int) = x % 2 ^ i
  rw [h, IntKind.wrap_i64]
  have hp : (2 : Int) ^ i ≤ 2 ^ 62 := by
    have := Nat.pow_le_pow_right (n := 2) (by decide) hi
    exact_mod_cast this
  have h0 : (0 : Int) < 2 ^ i := by
    have := Nat.two_pow_pos i
    exact_mod_cast this
  have h1 := Int.emod_nonneg x (Int.ne_of_gt h0)
  have h2 := Int.emod_lt_of_pos x h0
  generalize x % 2 ^ i = y at *
  generalize (2 : Int) ^ i = p at *
  omega

theorem and7_u64 (x : Int) : Go.bits .and .u64 x 7 = x % 8 := and_u64 x 3 (by decide)
theorem and511_u64 (x : Int) : Go.bits .and .u64 x 511 = x % 512 := and_u64 x 9 (by decide)
theorem and7_i64 (x : Int) : Go.bits .and .i64 x 7 = x % 8 := and_i64 x 3 (by decide)
theorem and511_i64 (x : Int) : Go.bits .and .i64 x 511 = x % 512 := and_i64 x 9 (by decide)
theorem or_i64 (x y : Int) (hx₀ : 0 ≤ x) (hx : x % 64 = 0) (hx₁ : x < 2147483648) (h₀ : 0 ≤ y) (h₁ : y < 64) : Go.bits .or .i64 x y = x + y :=
  bits_join .i64 31 (by decide) (fun n h0 h1 => by rw [IntKind.wrap_i64]; omega) 6 x y hx₀ hx hx₁ h₀ h₁ (by omega)

theorem shl1_3 : shl .u64 1 3 = 8 := by decide
theorem shl1_9 : shl .u64 1 9 = 512 := by decide
theorem shli1_3 : shl .i64 1 3 = 8 := by decide
theorem shli1_9 : shl .i64 1 9 = 512 := by decide
theorem shr_0 (k : IntKind) (x : Int) : shr k x 0 = x := by simp [shr]
theorem shr_3 (x : Int) : shr .u64 x 3 = x / 8 := rfl
theorem shr_6 (x : Int) : shr .u64 x 6 = x / 64 := rfl
theorem shri_3 (x : Int) : shr .i64 x 3 = x / 8 := rfl
theorem shri_6 (x : Int) : shr .i64 x 6 = x / 64 := rfl

/-- An address whose bit 14 goes on. -/
def wideF (a : Int) : Int := if a % 32768 < 16384 then a % 32768 else a % 32768 + 18446744073709518848
theorem wide_eq (a : Int) (_h0 : 0 ≤ a) (_h1 : a < 18446744073709551616) :
    IntKind.u64.wrap ((wrap64 (IntKind.u64.wrap (a * 562949953421312))) / 562949953421312) = wideF a := by
  unfold wideF
  rw [wrap_u64, wrap_u64]
  unfold wrap64
  split <;> omega

theorem wideF_lt (a : Int) : 0 ≤ wideF a ∧ wideF a < 18446744073709551616 := by unfold wideF; split <;> omega
theorem wideF_mod (a : Int) : wideF a % 32768 = a % 32768 := by unfold wideF; split <;> omega
theorem wideF_congr {a b : Int} (h : a % 32768 = b % 32768) : wideF a = wideF b := by unfold wideF; rw [h]
theorem wideF_idem (a : Int) : wideF (wideF a) = wideF a := wideF_congr (wideF_mod a)
theorem wideF_page (p w : Int) (_hp : 0 ≤ p ∧ p < 512) (_hw : 0 ≤ w ∧ w < 8) : wideF (64 * p + 8 * w) / 64 % 512 = p := by
  have := wideF_mod (64 * p + 8 * w); omega
theorem wideF_word (p w : Int) (_hp : 0 ≤ p ∧ p < 512) (_hw : 0 ≤ w ∧ w < 8) : wideF (64 * p + 8 * w) / 8 % 8 = w := by
  have := wideF_mod (64 * p + 8 * w); omega
theorem wideF_8 (p w : Int) : wideF (64 * p + 8 * w) % 8 = 0 := by
  have := wideF_mod (64 * p + 8 * w); omega
theorem wideF_back (a : Int) (_h0 : 0 ≤ a) (_h1 : a < 18446744073709551616) : wideF (64 * (a / 64 % 512) + 8 * (a / 8 % 8)) = a ↔ (wideF a = a ∧ a % 8 = 0) := by
  have hm := wideF_mod (64 * (a / 64 % 512) + 8 * (a / 8 % 8))
  constructor
  · intro h
    rw [h] at hm
    have e : a % 8 = 0 := by omega
    refine ⟨?_, e⟩
    rw [← h, wideF_idem]
  · rintro ⟨h1, h2⟩
    rw [← h1]
    rw [h1]
    have : wideF (64 * (a / 64 % 512) + 8 * (a / 8 % 8)) = wideF a := wideF_congr (by omega)
    rw [this, h1]

theorem xor_u64 (x y : Nat) (hx : x < 2 ^ 64) (hy : y < 2 ^ 64) : Go.bits .xor .u64 (x : Int) (y : Int) = ((x ^^^ y : Nat) : Int) := by
  have hxy : x ^^^ y < 2 ^ 64 := Nat.xor_lt_two_pow hx hy
  show IntKind.u64.wrap ((BitVec.ofInt 64 (x : Int) ^^^ BitVec.ofInt 64 (y : Int)).toNat : Int) = _
  rw [BitVec.toNat_xor, BitVec.ofInt_natCast, BitVec.ofInt_natCast, BitVec.toNat_ofNat, BitVec.toNat_ofNat, Nat.mod_eq_of_lt hx, Nat.mod_eq_of_lt hy, wrap_u64]
  omega

/-- One bit from 14 on turned: what stands below stays; what stands above is turned in one bit. -/
theorem turned (low h j : Nat) (hl : low < 2 ^ 14) : (low + 2 ^ 14 * h) ^^^ 2 ^ (14 + j) = low + 2 ^ 14 * (h ^^^ 2 ^ j) := by
  have e1 : ((low + 2 ^ 14 * h) ^^^ 2 ^ (14 + j)) % 2 ^ 14 = low := by
    rw [Nat.xor_mod_two_pow]
    have a : (low + 2 ^ 14 * h) % 2 ^ 14 = low := by omega
    have b : 2 ^ (14 + j) % 2 ^ 14 = 0 := by rw [Nat.pow_add]; simp
    rw [a, b]; simp
  have e2 : ((low + 2 ^ 14 * h) ^^^ 2 ^ (14 + j)) / 2 ^ 14 = h ^^^ 2 ^ j := by
    rw [Nat.xor_div_two_pow]
    have a : (low + 2 ^ 14 * h) / 2 ^ 14 = h := by omega
    have b : 2 ^ (14 + j) / 2 ^ 14 = 2 ^ j := by rw [Nat.pow_add]; exact Nat.mul_div_cancel_left _ (by decide)
    rw [a, b]
  have := Nat.mod_add_div ((low + 2 ^ 14 * h) ^^^ 2 ^ (14 + j)) (2 ^ 14)
  rw [e1, e2] at this
  exact this.symm

theorem no_sign : ∀ j, j < 50 → 2 ^ j ≠ 0 ∧ (2 ^ j ≠ 1125899906842623 ∧ (1125899906842623 ^^^ 2 ^ j ≠ 0 ∧ (1125899906842623 ^^^ 2 ^ j ≠ 1125899906842623 ∧ 1125899906842623 ^^^ 2 ^ j < 1125899906842624))) := by decide

end Go.Proofs.Ytgnjmbmbdapkoaa.Arith
