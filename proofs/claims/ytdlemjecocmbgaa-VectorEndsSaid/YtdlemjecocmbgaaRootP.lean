/-
  Plain arithmetic: the root of a whole number, rounded down; Newton's step from above; the root bit by bit.
-/
namespace Go.Proofs.Ytdlemjecocmbgaa
set_option linter.unusedVariables false

structure IsRoot (N r : Int) : Prop where
  r0 : 0 ≤ r
  le : r * r ≤ N
  lt : N < (r + 1) * (r + 1)

theorem root_mono {N r x : Int} (h : IsRoot N r) (x0 : 0 ≤ x) (hx : x * x ≤ N) : x ≤ r := by
  rcases Int.lt_or_le r x with k | k
  · have := Int.mul_le_mul (show r + 1 ≤ x by omega) (show r + 1 ≤ x by omega) (by have := h.r0; omega) x0
    have := h.lt
    omega
  · exact k
theorem root_above {N r x : Int} (h : IsRoot N r) (x0 : 0 ≤ x) (hx : x ≤ r) : x * x ≤ N := by
  have := Int.mul_le_mul hx hx x0 h.r0
  have := h.le
  omega
theorem root_unique {N r s : Int} (h : IsRoot N r) (k : IsRoot N s) : r = s := by
  have a := root_mono h k.r0 k.le
  have b := root_mono k h.r0 h.le
  omega

theorem root_exists : ∀ n : Nat, ∃ r : Nat, IsRoot n r
  | 0 => ⟨0, by omega, by omega, by omega⟩
  | n + 1 => by
    obtain ⟨r, h⟩ := root_exists n
    have h1 := h.le
    have h2 := h.lt
    by_cases k : ((r : Int) + 1) * (r + 1) ≤ ((n + 1 : Nat) : Int)
    · refine ⟨r + 1, by omega, ?_, ?_⟩
      · simpa using k
      · have e : (((r + 1 : Nat) : Int) + 1) * (((r + 1 : Nat) : Int) + 1) = ((r : Int) + 1) * (r + 1) + 2 * (r + 1) + 1 := by
          have : (((r + 1 : Nat) : Int)) = (r : Int) + 1 := by omega
          rw [this, Int.add_mul (↑r + 1) 1, Int.mul_add (↑r + 1)]
          omega
        rw [e]
        omega
    · exact ⟨r, by omega, by omega, by omega⟩

/-- the root -/
noncomputable def isq (N : Int) : Int := ((root_exists N.toNat).choose : Nat)
theorem isq_is (N : Int) (h : 0 ≤ N) : IsRoot N (isq N) := by
  have e := Int.toNat_of_nonneg h
  have k := (root_exists N.toNat).choose_spec
  unfold isq
  generalize (root_exists N.toNat).choose = r at *
  rw [e] at k
  exact k
theorem isq_of {N r : Int} (h : 0 ≤ N) (k : IsRoot N r) : isq N = r := root_unique (isq_is N h) k

theorem sq_add (x y : Int) : (x + y) * (x + y) = x * x + 2 * (x * y) + y * y := by
  rw [Int.add_mul, Int.mul_add, Int.mul_add, Int.mul_comm y x]; omega

/-- Newton's step from above stays above -/
theorem newton_above {N r x : Int} (h : IsRoot N r) (x0 : 0 < x) (hx : r ≤ x) : r ≤ (x + N / x) / 2 := by
  rcases Int.lt_or_le ((x + N / x) / 2) r with k | k
  · have e := Int.mul_ediv_add_emod N x
    have m0 := Int.emod_nonneg N (show x ≠ 0 by omega)
    have m1 := Int.emod_lt_of_pos N x0
    have q1 : N / x ≤ 2 * r - 1 - x := by omega
    have q2 := Int.mul_le_mul_of_nonneg_left q1 (Int.le_of_lt x0)
    have d : 0 ≤ (x - r) * (x - r) := by
      rcases Int.lt_or_le (x - r) 0 with a | a
      · omega
      · exact Int.mul_nonneg a a
    have e2 : x * (2 * r - 1 - x) = 2 * (x * r) - x - x * x := by rw [Int.mul_sub, Int.mul_sub, Int.mul_left_comm]; omega
    have e3 : (x - r) * (x - r) = x * x - 2 * (x * r) + r * r := by rw [Int.sub_mul, Int.mul_sub, Int.mul_sub, Int.mul_comm r x]; omega
    have := h.le
    omega
  · exact k
/-- where it does not fall any more it is the root -/
theorem newton_end {N r x : Int} (h : IsRoot N r) (x0 : 0 < x) (hx : r ≤ x) (hn : x ≤ (x + N / x) / 2) : x = r := by
  have q : x ≤ N / x := by omega
  have e := Int.mul_ediv_add_emod N x
  have m0 := Int.emod_nonneg N (show x ≠ 0 by omega)
  have q2 := Int.mul_le_mul_of_nonneg_left q (Int.le_of_lt x0)
  have := root_mono h (Int.le_of_lt x0) (by omega)
  omega
/-- a guess at most the upper half -/
theorem newton_high {hi lo r x : Int} (h : IsRoot (hi * 18446744073709551616 + lo) r) (x0 : 0 ≤ x) (x1 : x ≤ 18446744073709551615) (l0 : 0 ≤ lo) (hx : r ≤ x) (hh : x ≤ hi) : x = r := by
  have q := Int.mul_le_mul_of_nonneg_left (show x ≤ 18446744073709551616 by omega) x0
  have := root_mono h x0 (by omega)
  omega
theorem root_lt {N r : Int} (h : IsRoot N r) (b : Int) (b0 : 0 ≤ b) (hN : N < b * b) : r < b := by
  rcases Int.lt_or_le r b with k | k
  · exact k
  · have := root_above h b0 k
    omega

end Go.Proofs.Ytdlemjecocmbgaa
