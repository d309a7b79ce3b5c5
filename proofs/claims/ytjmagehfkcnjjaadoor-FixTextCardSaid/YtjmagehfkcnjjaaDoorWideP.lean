/-
  Plain arithmetic for numbers of 128 bits: what the two halves of a number are, and how they go through sums, products and orders.
-/
namespace Go.Proofs.YtjmagehfkcnjjaaDoor
set_option linter.unusedVariables false

/-- the high half, signed -/
def hiW (n : Int) : Int := (n / 18446744073709551616 + 9223372036854775808) % 18446744073709551616 - 9223372036854775808
/-- the low half -/
def loW (n : Int) : Int := n % 18446744073709551616
/-- a number of 64 bits without sign -/
def uW (n : Int) : Int := n % 18446744073709551616
/-- a number of 128 bits -/
def R128 (n : Int) : Prop := -170141183460469231731687303715884105728 ≤ n ∧ n < 170141183460469231731687303715884105728
def R64 (n : Int) : Prop := -9223372036854775808 ≤ n ∧ n < 9223372036854775808
def U64 (n : Int) : Prop := 0 ≤ n ∧ n < 18446744073709551616
/-- a number wrapped to 128 bits -/
def w128 (n : Int) : Int := (n + 170141183460469231731687303715884105728) % 340282366920938463463374607431768211456 - 170141183460469231731687303715884105728
def ordW (a b : Int) : Int := if a = b then 0 else if a < b then -1 else 1

theorem loW_bd (n : Int) : 0 ≤ loW n ∧ loW n ≤ 18446744073709551615 := by unfold loW; omega
theorem hiW_bd (n : Int) : -9223372036854775808 ≤ hiW n ∧ hiW n ≤ 9223372036854775807 := by unfold hiW; omega
theorem uW_bd (n : Int) : 0 ≤ uW n ∧ uW n ≤ 18446744073709551615 := by unfold uW; omega
theorem halves (n : Int) (h : R128 n) : hiW n * 18446744073709551616 + loW n = n := by unfold R128 at h; unfold hiW loW; omega
theorem hiW_of (h l : Int) (hh : -9223372036854775808 ≤ h ∧ h ≤ 9223372036854775807) (hl : 0 ≤ l ∧ l ≤ 18446744073709551615) : hiW (h * 18446744073709551616 + l) = h := by unfold hiW; omega
theorem loW_of (h l : Int) (hl : 0 ≤ l ∧ l ≤ 18446744073709551615) : loW (h * 18446744073709551616 + l) = l := by unfold loW; omega
theorem R128_of (h l : Int) (hh : -9223372036854775808 ≤ h ∧ h ≤ 9223372036854775807) (hl : 0 ≤ l ∧ l ≤ 18446744073709551615) : R128 (h * 18446744073709551616 + l) := by unfold R128; omega
theorem both_of (h l : Int) (hh : -9223372036854775808 ≤ h ∧ h ≤ 9223372036854775807) (hl : 0 ≤ l ∧ l ≤ 18446744073709551615) : ∃ n, R128 n ∧ h = hiW n ∧ l = loW n :=
  ⟨_, R128_of h l hh hl, (hiW_of h l hh hl).symm, (loW_of h l hl).symm⟩
theorem hiW_small (n : Int) (h : R64 n) : hiW n = n / 9223372036854775808 := by unfold R64 at h; unfold hiW; omega
/-- the sum, by halves -/
theorem add_lo (n m : Int) : (loW n + loW m + 0) % 18446744073709551616 = loW (n + m) := by unfold loW; omega
theorem add_hi (n m : Int) : hiW ((uW (hiW n) + uW (hiW m) + (loW n + loW m + 0) / 18446744073709551616) % 18446744073709551616 * 18446744073709551616) = hiW (n + m) := by unfold uW hiW loW; omega
theorem sub_lo (n m : Int) : (loW n + 18446744073709551616 - loW m - 0) % 18446744073709551616 = loW (n - m) := by unfold loW; omega
theorem eq_of_halves (n m : Int) (hn : R128 n) (hm : R128 m) (h1 : hiW n = hiW m) (h2 : loW n = loW m) : n = m := by rw [← halves n hn, ← halves m hm, h1, h2]
end Go.Proofs.YtjmagehfkcnjjaaDoor
