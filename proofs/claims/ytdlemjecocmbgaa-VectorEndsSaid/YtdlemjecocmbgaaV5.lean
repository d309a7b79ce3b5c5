/-
  The nearest quotient, in plain words; the place on a way between near points.
-/
import Derived.Test.YtdlemjecocmbgaaV4
namespace Go.Proofs.Ytdlemjecocmbgaa
set_option linter.unusedVariables false
open Go.RowKit

theorem nrst_eq (n c : Int) (hc : 0 < c) : nrst n c = (2 * n + c) / (2 * c) := by
  have e := Int.mul_ediv_add_emod n c
  have m0 := Int.emod_nonneg n (show c ≠ 0 by omega)
  have m1 := Int.emod_lt_of_pos n hc
  unfold nrst
  generalize n % c = t at *
  generalize n / c = q at *
  have k : 2 * n + c = (2 * t + c) + 2 * c * q := by rw [Int.mul_assoc]; omega
  rw [k, Int.add_mul_ediv_left _ _ (by omega)]
  split
  · have : (2 * t + c) / (2 * c) = 1 := by
      rw [show 2 * t + c = (2 * t - c) + 2 * c * 1 by omega, Int.add_mul_ediv_left _ _ (by omega), Int.ediv_eq_zero_of_lt (by omega) (by omega)]; rfl
    omega
  · rw [Int.ediv_eq_zero_of_lt (by omega) (by omega)]; omega
theorem nrst_mono (m n c : Int) (hc : 0 < c) (h : m ≤ n) : nrst m c ≤ nrst n c := by
  rw [nrst_eq m c hc, nrst_eq n c hc]
  exact Int.ediv_le_ediv (by omega) (by omega)
theorem nrst_mul (d c : Int) (hc : 0 < c) : nrst (d * c) c = d := by
  unfold nrst
  rw [Int.mul_emod_left, Int.mul_ediv_cancel _ (by omega), if_neg (by omega)]
theorem nrst_zero (c : Int) (hc : 0 < c) : nrst 0 c = 0 := by have := nrst_mul 0 c hc; simpa using this
theorem nrst_shift (n d c : Int) (hc : 0 < c) : nrst (n + d * c) c = nrst n c + d := by
  unfold nrst
  rw [Int.add_mul_emod_self_right, Int.add_mul_ediv_right _ _ (by omega)]
  split <;> omega
theorem nrst_pos (n c : Int) (hc : 0 < c) (h : 0 ≤ n) : 0 ≤ nrst n c ∧ nrst n c ≤ n := by
  have a := nrst_mono 0 n c hc h
  rw [nrst_zero c hc] at a
  have b := nrst_mono n (n * c) c hc (by have := Int.mul_le_mul_of_nonneg_left (show 1 ≤ c by omega) h; omega)
  rw [nrst_mul n c hc] at b
  exact ⟨a, b⟩
theorem nrst_neg (n c : Int) (hc : 0 < c) (h : n ≤ 0) : n ≤ nrst n c ∧ nrst n c ≤ 0 := by
  have a := nrst_mono n 0 c hc h
  rw [nrst_zero c hc] at a
  have b := nrst_mono (n * c) n c hc (by have := Int.mul_le_mul_of_nonpos_left h (show 1 ≤ c by omega); omega)
  rw [nrst_mul n c hc] at b
  exact ⟨b, a⟩
/-- the products of a way -/
theorem way_bd (d k : Int) (d0 : -2147483648 ≤ d) (d1 : d ≤ 2147483648) (k0 : -1073741824 ≤ k) (k1 : k ≤ 1073741824) : -2305843009213693952 ≤ d * k ∧ d * k ≤ 2305843009213693952 := by
  have := Int.mul_le_mul_of_natAbs_le (x := d) (y := k) (s := 2147483648) (t := 1073741824) (by omega) (by omega)
  have := Int.mul_le_mul_of_natAbs_le (x := -d) (y := k) (s := 2147483648) (t := 1073741824) (by omega) (by omega)
  rw [Int.neg_mul] at this
  omega
theorem way_nrst (d k n : Int) (hn : 0 < n) (d0 : -2147483648 ≤ d) (d1 : d ≤ 2147483648) (k0 : -1073741824 ≤ k) (k1 : k ≤ 1073741824) : -2305843009213693952 ≤ nrst (d * k) n ∧ nrst (d * k) n ≤ 2305843009213693952 := by
  have w := way_bd d k d0 d1 k0 k1
  rcases Int.le_total 0 (d * k) with h | h
  · have := nrst_pos (d * k) n hn h; omega
  · have := nrst_neg (d * k) n hn h; omega


theorem along_c (p q z u k n : Int) (w : World) (h1 : -1073741824 ≤ p) (h2 : p ≤ 1073741824) (h3 : -1073741824 ≤ q) (h4 : q ≤ 1073741824) (k1 : -1073741824 ≤ z) (k2 : z ≤ 1073741824) (k3 : -1073741824 ≤ u) (k4 : u ≤ 1073741824) (hn : 1 ≤ n) (n9 : n ≤ 9223372036854775807) (k0 : -1073741824 ≤ k) (k9 : k ≤ 1073741824) :
    Calls Try.prog 19 #[.agg #[.int .i64 p, .int .i64 q], .agg #[.int .i64 z, .int .i64 u], .int .i64 k, .int .i64 n] w fun e w' => e = .returned (.agg #[.int .i64 (p + nrst ((z - p) * k) n), .int .i64 (q + nrst ((u - q) * k) n)]) ∧ ∃ x : Later w, w' = x.out := by
  have y1 := way_nrst (z - p) k n (by omega) (by omega) (by omega) k0 k9
  have y2 := way_nrst (u - q) k n (by omega) (by omega) (by omega) k0 k9
  have c1 := fun v => near_c (z - p) k n v (by unfold R64; omega) (by unfold R64; omega) (by omega) n9 (by unfold R64; omega)
  have c2 := fun v => near_c (u - q) k n v (by unfold R64; omega) (by unfold R64; omega) (by omega) n9 (by unfold R64; omega)
  have cs := fun v => ptSub_c z u p q v
  rw [w64_in (z - p) (by unfold R64; omega), w64_in (u - q) (by unfold R64; omega)] at cs
  exact ptAlong_c1 p q z u k n _ _ _ _ _ _ w hn (w64_in _ (by unfold R64; omega)) (w64_in _ (by unfold R64; omega)) cs (fun v => scaled_c _ _ k n _ _ v c1 c2)


theorem along_r (p q z u k n : Int) (w : World) (h1 : -1073741824 ≤ p) (h2 : p ≤ 1073741824) (h3 : -1073741824 ≤ q) (h4 : q ≤ 1073741824) (k1 : -1073741824 ≤ z) (k2 : z ≤ 1073741824) (k3 : -1073741824 ≤ u) (k4 : u ≤ 1073741824) (hn : 1 ≤ n) (n9 : n ≤ 9223372036854775807) (k0 : -1073741824 ≤ k) (k9 : k ≤ 1073741824) :
    Calls Try.prog 31 #[.agg #[.int .i64 p, .int .i64 q], .agg #[.int .i64 z, .int .i64 u], .int .i64 k, .int .i64 n] w fun e w' => e = .returned (.agg #[.int .i64 (p + nrst ((z - p) * k) n), .int .i64 (q + nrst ((u - q) * k) n)]) ∧ ∃ x : Later w, w' = x.out := by
  have y1 := way_nrst (z - p) k n (by omega) (by omega) (by omega) k0 k9
  have y2 := way_nrst (u - q) k n (by omega) (by omega) (by omega) k0 k9
  have c1 := fun v => near_r (z - p) k n v (by unfold R64; omega) (by unfold R64; omega) (by omega) n9 (by unfold R64; omega)
  have c2 := fun v => near_r (u - q) k n v (by unfold R64; omega) (by unfold R64; omega) (by omega) n9 (by unfold R64; omega)
  skip
  skip
  exact ptAlong_r1 p q z u k n _ _ _ _ _ _ w hn (w64_in _ (by unfold R64; omega)) (w64_in _ (by unfold R64; omega)) (w64_in _ (by unfold R64; omega)) (w64_in _ (by unfold R64; omega)) c1 c2

end Go.Proofs.Ytdlemjecocmbgaa
