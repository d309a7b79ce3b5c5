/-
  The contracts of the reference's product and of what is narrow.
-/
import Derived.Test.YtjmagehfkcnjjaaDoorW5
namespace Go.Proofs.YtjmagehfkcnjjaaDoor
set_option linter.unusedVariables false
open Go.RowKit

theorem mul_parts (x y : Int) (hx : 0 ≤ x) (hx1 : x ≤ 9223372036854775808) (hy : 0 ≤ y) (hy1 : y ≤ 9223372036854775808) :
    ∃ p q r s pr qs ps qr : Int, x / 4294967296 = p ∧ x % 4294967296 = q ∧ y / 4294967296 = r ∧ y % 4294967296 = s ∧
      IntKind.u64.wrap (p * r) = pr ∧ IntKind.u64.wrap (q * s) = qs ∧ IntKind.u64.wrap (p * s) = ps ∧ IntKind.u64.wrap (q * r) = qr ∧
      (0 ≤ qs ∧ qs ≤ 18446744073709551615) ∧ (0 ≤ ps ∧ ps ≤ 18446744073709551615) ∧ (0 ≤ qr ∧ qr ≤ 18446744073709551615) ∧ pr * 18446744073709551616 + qs + ps * 4294967296 + qr * 4294967296 = x * y := by
  have b1 := prod_bound (x / 4294967296) (y / 4294967296) (by omega) (by omega) (by omega) (by omega)
  have b2 := prod_bound (x % 4294967296) (y % 4294967296) (by omega) (by omega) (by omega) (by omega)
  have b3 := prod_bound (x / 4294967296) (y % 4294967296) (by omega) (by omega) (by omega) (by omega)
  have b4 := prod_bound (x % 4294967296) (y / 4294967296) (by omega) (by omega) (by omega) (by omega)
  have k := split_mul (x / 4294967296) (x % 4294967296) (y / 4294967296) (y % 4294967296)
  rw [show x / 4294967296 * 4294967296 + x % 4294967296 = x by omega, show y / 4294967296 * 4294967296 + y % 4294967296 = y by omega] at k
  refine ⟨_, _, _, _, _, _, _, _, rfl, rfl, rfl, rfl, IntWalk.u64_in _ (by omega), IntWalk.u64_in _ (by omega), IntWalk.u64_in _ (by omega), IntWalk.u64_in _ (by omega), ⟨b2.1, by omega⟩, ⟨b3.1, by omega⟩, ⟨b4.1, by omega⟩, ?_⟩
  rw [k, Int.add_mul]
  omega
theorem hi_of_up (n : Int) : hiW (n * 18446744073709551616) = wrap64 n := by unfold hiW wrap64; omega
theorem lo_of_up (n : Int) : loW (n * 18446744073709551616) = 0 := by unfold loW; omega
theorem hi_of_small (n : Int) (h : 0 ≤ n ∧ n ≤ 18446744073709551615) : hiW n = 0 := by unfold hiW; omega
theorem lo_of_small (n : Int) (h : 0 ≤ n ∧ n ≤ 18446744073709551615) : loW n = n := by unfold loW; omega


end Go.Proofs.YtjmagehfkcnjjaaDoor
