/-
  The contract of the reference's quotient: bit by bit, from the highest one on.
-/
import Derived.Test.YtjmagehfkcnjjaaDoorW6
namespace Go.Proofs.YtjmagehfkcnjjaaDoor
set_option linter.unusedVariables false
open Go.RowKit

def top63 (x : Int) : Int := x / 9223372036854775808
@[local go_sem] theorem fold63 (x : Int) : x / 9223372036854775808 = top63 x := rfl

/-- what holds at the head of each round: T has been divided, its quotient is Q and its rest t; h and l are the halves of what is left of N -/
structure Bits (N b Q T h l t : Int) (k : Nat) : Prop where
  q : Q = T / b
  r : t = T % b
  all : T * 340282366920938463463374607431768211456 + (h * 18446744073709551616 + l) = N * 2 ^ k

theorem bits_first (N b : Int) (b0 : 0 < b) : Bits N b 0 0 (N / 18446744073709551616) (N % 18446744073709551616) 0 0 :=
  ⟨by simp, by simp, by simp; omega⟩

theorem bits_next (N b Q T h l t h2 l2 c d : Int) (k : Nat) (g : Bits N b Q T h l t k) (hc : top63 h = c) (hd : top63 l = d) (hh : h2 = h * 2 + d - c * 18446744073709551616) (hl : l2 = l * 2 - d * 18446744073709551616) (b0 : 0 < b) (t0 : 0 ≤ t) (t1 : t < b) (c0 : 0 ≤ c) (c1 : c ≤ 1) :
    (t * 2 + c < b → Bits N b (Q + Q) (T * 2 + c) h2 l2 (t * 2 + c) (k + 1)) ∧ (b ≤ t * 2 + c → Bits N b (Q + Q + 1) (T * 2 + c) h2 l2 (t * 2 + c - b) (k + 1)) := by
  obtain ⟨q, r, a⟩ := g
  unfold top63 at hc hd
  have e := Int.mul_ediv_add_emod T b
  rw [← q, ← r] at e
  have k2 : T * 2 + c = t * 2 + c + b * (Q + Q) := by rw [Int.mul_add]; omega
  have all : (T * 2 + c) * 340282366920938463463374607431768211456 + (h2 * 18446744073709551616 + l2) = N * 2 ^ (k + 1) := by
    rw [Int.pow_succ, ← Int.mul_assoc, ← a, hh, hl]
    omega
  refine ⟨fun hlt => ⟨?_, ?_, all⟩, fun hge => ⟨?_, ?_, all⟩⟩
  · rw [k2, Int.add_mul_ediv_left _ _ (by omega), Int.ediv_eq_zero_of_lt (by omega) (by omega)]; omega
  · rw [k2, Int.add_mul_emod_self_left, Int.emod_eq_of_lt (by omega) (by omega)]
  · have k3 : T * 2 + c = t * 2 + c - b + b * (Q + Q + 1) := by rw [Int.mul_add, Int.mul_one]; omega
    rw [k3, Int.add_mul_ediv_left _ _ (by omega), Int.ediv_eq_zero_of_lt (by omega) (by omega)]; omega
  · have k3 : T * 2 + c = t * 2 + c - b + b * (Q + Q + 1) := by rw [Int.mul_add, Int.mul_one]; omega
    rw [k3, Int.add_mul_emod_self_left, Int.emod_eq_of_lt (by omega) (by omega)]

theorem bits_last (N b Q T h l t : Int) (g : Bits N b Q T h l t 128) (h0 : 0 ≤ h) (h1 : h ≤ 18446744073709551615) (l0 : 0 ≤ l) (l1 : l ≤ 18446744073709551615) : Q = N / b ∧ t = N % b := by
  obtain ⟨q, r, a⟩ := g
  have e : (2 : Int) ^ 128 = 340282366920938463463374607431768211456 := by decide +kernel
  rw [e] at a
  have : T = N := by omega
  rw [← this]
  exact ⟨q, r⟩


end Go.Proofs.YtjmagehfkcnjjaaDoor
