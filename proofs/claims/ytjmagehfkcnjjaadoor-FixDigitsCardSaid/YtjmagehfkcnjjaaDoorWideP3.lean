/-
  Plain arithmetic: a divisor is shifted till its highest bit stands first; the dividend goes with it; what the two digits of the quotient come to.
-/
import Derived.Test.YtjmagehfkcnjjaaDoorWideP2
import Derived.Laws.Bits64b
import Derived.Laws.MathBits
import Derived.Lib.BitFns
namespace Go.Proofs.YtjmagehfkcnjjaaDoor
set_option linter.unusedVariables false

theorem bitLen_is : ∀ (n x : Nat), x ≤ n → x ≠ 0 → x < 2 ^ 64 → ∃ k, Lib.bitLen x = k + 1 ∧ 2 ^ k ≤ x ∧ x < 2 ^ (k + 1)
  | 0, x, h, h0, _ => absurd (Nat.le_zero.1 h) h0
  | n + 1, x, h, h0, h1 => by
    by_cases h2 : x = 1
    · subst h2
      exact ⟨0, by decide +kernel, by omega, by omega⟩
    · obtain ⟨k, e, a, b⟩ := bitLen_is n (x / 2) (by omega) (by omega) (by omega)
      refine ⟨k + 1, by rw [Lib.bitLen_half x h0 h1, e]; omega, ?_, ?_⟩
      · rw [Nat.pow_succ]; omega
      · rw [Nat.pow_succ]; omega

theorem shift_is (y : Nat) (h0 : y ≠ 0) (h1 : y < 18446744073709551616) : ∃ s, s ≤ 63 ∧ 64 - Lib.bitLen y = s ∧ Lib.bitLen y ≤ 64 ∧ 9223372036854775808 ≤ y * 2 ^ s ∧ y * 2 ^ s < 18446744073709551616 := by
  obtain ⟨k, e, a, b⟩ := bitLen_is y y (Nat.le_refl _) h0 (by simpa using h1)
  have hk : k ≤ 63 := by
    rcases Nat.lt_or_ge 63 k with h | h
    · have : 2 ^ 64 ≤ 2 ^ k := Nat.pow_le_pow_right (by omega) (by omega)
      omega
    · exact h
  refine ⟨63 - k, by omega, by omega, by omega, ?_, ?_⟩
  · have e1 : 2 ^ k * 2 ^ (63 - k) = 9223372036854775808 := by rw [← Nat.pow_add, show k + (63 - k) = 63 by omega]
    have := Nat.mul_le_mul_right (2 ^ (63 - k)) a
    omega
  · have e1 : 2 ^ (k + 1) * 2 ^ (63 - k) = 18446744073709551616 := by rw [← Nat.pow_add, show k + 1 + (63 - k) = 64 by omega]
    have := Nat.mul_lt_mul_of_lt_of_le b (Nat.le_refl (2 ^ (63 - k))) (Nat.two_pow_pos _)
    omega

/-- the shifted dividend's upper and lower half -/
theorem shifted (hi lo s : Nat) (hs : s ≤ 63) :
    (hi * 2 ^ s + lo / 2 ^ (64 - s)) * 18446744073709551616 + lo * 2 ^ s % 18446744073709551616 = (hi * 18446744073709551616 + lo) * 2 ^ s := by
  have e1 : (2 : Nat) ^ (64 - s) * 2 ^ s = 18446744073709551616 := by rw [← Nat.pow_add, show 64 - s + s = 64 by omega]
  have e2 : lo * 2 ^ s / 18446744073709551616 = lo / 2 ^ (64 - s) := by rw [← e1, Nat.mul_div_mul_right _ _ (Nat.two_pow_pos s)]
  have e3 := Nat.div_add_mod (lo * 2 ^ s) 18446744073709551616
  rw [e2] at e3
  rw [Nat.add_mul, Nat.add_mul (hi * 18446744073709551616), Nat.mul_right_comm hi]
  omega

theorem or_parts (hi lo s : Nat) (hs : s ≤ 63) (hlo : lo < 18446744073709551616) (hu : hi * 2 ^ s + lo / 2 ^ (64 - s) < 18446744073709551616) :
    bits .or .u64 ((hi * 2 ^ s : Nat) : Int) ((lo / 2 ^ (64 - s) : Nat) : Int) = ((hi * 2 ^ s + lo / 2 ^ (64 - s) : Nat) : Int) := by
  rw [bits_or_u64_nat _ _ (Nat.lt_of_le_of_lt (Nat.le_add_right _ _) hu) (Nat.lt_of_le_of_lt (Nat.le_add_left _ _) hu)]
  have e1 : (2 : Nat) ^ (64 - s) * 2 ^ s = 18446744073709551616 := by rw [← Nat.pow_add, show 64 - s + s = 64 by omega]
  have b : lo / 2 ^ (64 - s) < 2 ^ s := by
    rw [Nat.div_lt_iff_lt_mul (Nat.two_pow_pos _), Nat.mul_comm, e1]
    exact hlo
  rw [Nat.mul_comm hi, ← Nat.two_pow_add_eq_or_of_lt b]

theorem mask_is (z : Int) (h0 : 0 ≤ z) (h1 : z < 18446744073709551616) : bits .and .u64 z 4294967295 = z % 4294967296 := and_low32 z h0 h1

/-- what the two digits come to -/
theorem quo_of (N y p Y U L d1 d0 V R a b : Int) (hp : 0 < p) (hN : N * p = U * 18446744073709551616 + L) (hY : Y = y * p) (hL : L = d1 * 4294967296 + d0)
    (hV : V = U * 4294967296 + d1 - a * Y) (hR : R = V * 4294967296 + d0 - b * Y) (hR0 : 0 ≤ R) (hR1 : R < Y) :
    N / y = a * 4294967296 + b ∧ N % y = R / p := by
  have hy : 0 < y := by
    rcases Int.lt_or_le 0 y with h | h
    · exact h
    · have := Int.mul_le_mul_of_nonneg_right h (Int.le_of_lt hp)
      omega
  have k : N * p = (a * 4294967296 + b) * y * p + R := by
    rw [Int.mul_assoc, ← hY, Int.add_mul, Int.mul_right_comm a]
    generalize a * Y = u at *
    generalize b * Y = v at *
    omega
  generalize a * 4294967296 + b = q at k ⊢
  have k2 : R = (N - q * y) * p := by rw [Int.sub_mul]; omega
  generalize hr : N - q * y = r at k2
  have r0 : 0 ≤ r := by
    rcases Int.lt_or_le r 0 with h | h
    · have := Int.mul_neg_of_neg_of_pos h hp
      omega
    · exact h
  have r1 : r < y := by
    rcases Int.lt_or_le r y with h | h
    · exact h
    · have := Int.mul_le_mul_of_nonneg_right h (Int.le_of_lt hp)
      omega
  have e : N = r + y * q := by rw [Int.mul_comm]; omega
  refine ⟨?_, ?_⟩
  · rw [e, Int.add_mul_ediv_left _ _ (by omega), Int.ediv_eq_zero_of_lt r0 r1]; omega
  · rw [k2, Int.mul_ediv_cancel _ (by omega), e, Int.add_mul_emod_self_left, Int.emod_eq_of_lt r0 r1]
end Go.Proofs.YtjmagehfkcnjjaaDoor
