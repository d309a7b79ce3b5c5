/-
  Plain arithmetic: the long division of Knuth, two digits of 32 bits; floors and remainders.
-/
import Derived.Test.YtjmagehfkcnjjaaDoorWideP
namespace Go.Proofs.YtjmagehfkcnjjaaDoor
set_option linter.unusedVariables false

/-! ### one digit. 'a' is what is divided but for its last digit d; the divisor is h * 2^32 + l -/
theorem y_mul (q h l : Int) : q * (h * 4294967296 + l) = q * h * 4294967296 + q * l := by
  rw [Int.mul_add, Int.mul_assoc]

structure Digit (a d h l : Int) : Prop where
  h1 : 2147483648 ≤ h
  h2 : h < 4294967296
  l0 : 0 ≤ l
  l1 : l < 4294967296
  a0 : 0 ≤ a
  a1 : a < h * 4294967296 + l
  d0 : 0 ≤ d
  d1 : d < 4294967296

/-- the true digit -/
def dig (a d h l : Int) : Int := (a * 4294967296 + d) / (h * 4294967296 + l)

theorem dig_lt {a d h l : Int} (D : Digit a d h l) : 0 ≤ dig a d h l ∧ dig a d h l < 4294967296 := by
  obtain ⟨h1, h2, l0, l1, a0, a1, d0, d1⟩ := D
  unfold dig
  refine ⟨Int.ediv_nonneg (by omega) (by omega), Int.ediv_lt_of_lt_mul (by omega) (by omega)⟩

/-- what holds of the guess and its rest at the head of each round -/
structure Guess (a d h l q r : Int) : Prop where
  sum : q * h + r = a
  over : dig a d h l ≤ q
  r0 : 0 ≤ r
  rB : r < 4294967296
  qB : q ≤ 4294967297

theorem guess_first {a d h l : Int} (D : Digit a d h l) : Guess a d h l (a / h) (a - a / h * h) := by
  obtain ⟨h1, h2, l0, l1, a0, a1, d0, d1⟩ := D
  have e := Int.mul_ediv_add_emod a h
  have m0 := Int.emod_nonneg a (show h ≠ 0 by omega)
  have m1 := Int.emod_lt_of_pos a (show 0 < h by omega)
  have c : a / h * h = h * (a / h) := Int.mul_comm _ _
  have q0 : 0 ≤ a / h := Int.ediv_nonneg a0 (by omega)
  generalize a / h = q at *
  refine ⟨by omega, ?_, by omega, by omega, ?_⟩
  · have k1 : (q + 1) * (h * 4294967296 + l) = (q + 1) * h * 4294967296 + (q + 1) * l := y_mul _ _ _
    have k2 : (q + 1) * h = q * h + h := by rw [Int.add_mul, Int.one_mul]
    have k3 : 0 ≤ (q + 1) * l := Int.mul_nonneg (by omega) l0
    have k4 : dig a d h l < q + 1 := by
      unfold dig
      refine Int.ediv_lt_of_lt_mul (by omega) ?_
      rw [k1, k2]
      omega
    omega
  · rcases Int.lt_or_le 4294967297 q with hq | hq
    · have k : 4294967298 * h ≤ q * h := Int.mul_le_mul_of_nonneg_right (by omega) (by omega)
      omega
    · exact hq

theorem over_of {a d h l q r : Int} (D : Digit a d h l) (g : Guess a d h l q r) (hc : 4294967296 ≤ q ∨ 4294967296 * r + d < q * l) : dig a d h l ≤ q - 1 := by
  have t := dig_lt D
  rcases hc with hc | hc
  · omega
  · have hs := g.sum
    obtain ⟨h1, h2, l0, l1, a0, a1, d0, d1⟩ := D
    have k4 : dig a d h l < q := by
      unfold dig
      refine Int.ediv_lt_of_lt_mul (by omega) ?_
      rw [y_mul]
      omega
    omega

theorem guess_next {a d h l q r : Int} (D : Digit a d h l) (g : Guess a d h l q r) (hc : 4294967296 ≤ q ∨ 4294967296 * r + d < q * l) (hr : r + h < 4294967296) : Guess a d h l (q - 1) (r + h) := by
  have o := over_of D g hc
  have hs := g.sum
  have h1 := D.h1
  have k : (q - 1) * h = q * h - h := by rw [Int.sub_mul, Int.one_mul]
  exact ⟨by omega, o, by have := g.r0; omega, hr, by have := g.qB; omega⟩

theorem digit_of_le {a d h l q : Int} (D : Digit a d h l) (o : dig a d h l ≤ q) (hq : q * (h * 4294967296 + l) ≤ a * 4294967296 + d) : q = dig a d h l := by
  have : q ≤ dig a d h l := by
    unfold dig
    exact (Int.le_ediv_iff_mul_le (by have := D.h1; have := D.l0; omega)).2 hq
  omega

theorem guess_end {a d h l q r : Int} (D : Digit a d h l) (g : Guess a d h l q r) (hq : q < 4294967296) (hc : q * l ≤ 4294967296 * r + d) : q = dig a d h l := by
  refine digit_of_le D g.over ?_
  rw [y_mul]
  have hs := g.sum
  omega

theorem guess_break {a d h l q r : Int} (D : Digit a d h l) (g : Guess a d h l q r) (hc : 4294967296 ≤ q ∨ 4294967296 * r + d < q * l) (hr : 4294967296 ≤ r + h) : q - 1 = dig a d h l := by
  have o := over_of D g hc
  refine digit_of_le D o ?_
  rw [y_mul]
  have hs := g.sum
  have k : (q - 1) * h = q * h - h := by rw [Int.sub_mul, Int.one_mul]
  have hb := g.qB
  have hd := D.d0
  have t := dig_lt D
  have k2 : (q - 1) * l ≤ 4294967296 * 4294967296 := Int.mul_le_mul (by omega) (by have := D.l1; omega) D.l0 (by omega)
  omega

/-- the rest behind a digit -/
theorem digit_rest {a d h l : Int} (D : Digit a d h l) : 0 ≤ a * 4294967296 + d - dig a d h l * (h * 4294967296 + l) ∧ a * 4294967296 + d - dig a d h l * (h * 4294967296 + l) < h * 4294967296 + l := by
  obtain ⟨h1, h2, l0, l1, a0, a1, d0, d1⟩ := D
  have e := Int.mul_ediv_add_emod (a * 4294967296 + d) (h * 4294967296 + l)
  have m0 := Int.emod_nonneg (a * 4294967296 + d) (show h * 4294967296 + l ≠ 0 by omega)
  have m1 := Int.emod_lt_of_pos (a * 4294967296 + d) (show 0 < h * 4294967296 + l by omega)
  unfold dig
  rw [Int.mul_comm ((a * 4294967296 + d) / (h * 4294967296 + l))]
  omega
end Go.Proofs.YtjmagehfkcnjjaaDoor
