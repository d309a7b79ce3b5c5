/-
  The contract of the reference's quotient; what each layer shows of itself.
-/
import Derived.Test.YtjmagehfkcnjjaaGreatDoorW7
namespace Go.Proofs.YtjmagehfkcnjjaaGreatDoor
set_option linter.unusedVariables false
open Go.RowKit

theorem div_r (n b : Int) (w : World) (hn : R128 n) (hb : 0 < b) (hb1 : b ≤ 9223372036854775807) :
    Calls Tryz.prog 26 #[.agg #[.int .i64 (hiW n), .int .u64 (loW n)], .int .i64 b] w fun e w' => e = .returned (.tuple #[.agg #[.int .i64 (hiW (n / b)), .int .u64 (loW (n / b))], .int .i64 (n % b), .int .i64 0]) ∧ ∃ x : Later w, w' = x.out := by
  have hh := halves n hn
  have lb := loW_bd n
  unfold R128 at hn
  rcases Int.lt_or_le n 0 with h | h
  · have e0 := Int.mul_ediv_add_emod (-n) b
    have m0 := Int.emod_nonneg (-n) (show b ≠ 0 by omega)
    have m1 := Int.emod_lt_of_pos (-n) hb
    have k1 : hiW n < 0 := by omega
    have k2 := hi_wrap (-n) (by omega) (by omega)
    rcases Int.lt_or_eq_of_le m0 with hp | hp
    · have k : n = (b - -n % b) + b * (-(-n / b) - 1) := by rw [Int.mul_sub, Int.mul_neg]; omega
      have e1 : n / b = -(-n / b) - 1 := by
        have := Int.add_mul_ediv_left (b - -n % b) (-(-n / b) - 1) (show b ≠ 0 by omega)
        rw [← k, show (b - -n % b) / b = 0 from Int.ediv_eq_zero_of_lt (by omega) (by omega)] at this
        omega
      have e2 : n % b = b - -n % b := by
        have := Int.add_mul_emod_self_left (b - -n % b) b (-(-n / b) - 1)
        rw [← k, show (b - -n % b) % b = b - -n % b from Int.emod_eq_of_lt (by omega) (by omega)] at this
        omega
      rw [e1, e2]
      exact div_r_neg1 _ _ _ (-n) b _ _ _ _ _ _ w hb hb1 k1 (fun w' => neg_r n w') k2 (by omega) (by omega) (fun w' => neg_r _ w') hp (fun w' => of_r 1 w' (by unfold R64; omega)) (fun w' => sub_r _ 1 w')
    · have k : n = b * (-(-n / b)) := by rw [Int.mul_neg]; omega
      have e1 : n / b = -(-n / b) := by
        have := Int.mul_ediv_cancel_left (-(-n / b)) (show b ≠ 0 by omega)
        rwa [← k] at this
      have e2 : n % b = 0 := by
        have := Int.mul_emod_right b (-(-n / b))
        rwa [← k] at this
      rw [e1, e2]
      exact div_r_neg0 _ _ _ (-n) b _ _ 0 0 0 0 w hb hb1 k1 (fun w' => neg_r n w') k2 (by omega) (by omega) (fun w' => neg_r _ w') hp.symm
  · exact div_r_pos _ n b w hb hb1 (by omega) (hi_wrap n h (by omega)) h (by omega)

theorem sh1 (w : World) : Calls Tryz.prog 47 #[.int .i64 (-7)] w fun e w' => e = .returned (.agg #[.int .i64 (-1), .int .u64 18446744073709551609]) ∧ ∃ x : Later w, w' = x.out := by
  have h := of_c (-7) w (by unfold R64; omega)
  rw [show hiW (-7) = -1 by unfold hiW; omega, show loW (-7) = 18446744073709551609 by unfold loW; omega] at h
  exact h

theorem sh2 (w : World) : Calls Tryz.prog 44 #[.agg #[.int .i64 (-1), .int .u64 18446744073709551609], .int .i64 2] w fun e w' => e = .returned (.tuple #[.agg #[.int .i64 (-1), .int .u64 18446744073709551612], .int .i64 1, .int .i64 0]) ∧ ∃ x : Later w, w' = x.out := by
  have h := div_c (-7) 2 w (by unfold R128; omega) (by omega) (by omega)
  rw [show hiW (-7) = -1 by unfold hiW; omega, show loW (-7) = 18446744073709551609 by unfold loW; omega, show (-7 : Int) / 2 = -4 by omega, show (-7 : Int) % 2 = 1 by omega, show hiW (-4) = -1 by unfold hiW; omega, show loW (-4) = 18446744073709551612 by unfold loW; omega] at h
  exact h

theorem sh3 (w : World) : Calls Tryz.prog 48 #[.agg #[.int .i64 (-1), .int .u64 18446744073709551612]] w fun e w' => e = .returned (.tuple #[.int .i64 (-4), .bool true]) ∧ ∃ x : Later w, w' = x.out := by
  have h := narrow_yes (-4) w (by unfold R64; omega)
  rw [show hiW (-4) = -1 by unfold hiW; omega, show loW (-4) = 18446744073709551612 by unfold loW; omega] at h
  exact h

theorem sh4 (w : World) : Calls Tryz.prog 45 #[.int .i64 9223372036854775807, .int .i64 2] w fun e w' => e = .returned (.agg #[.int .i64 0, .int .u64 18446744073709551614]) ∧ ∃ x : Later w, w' = x.out := by
  have h := mul_c 9223372036854775807 2 w (by unfold R64; omega) (by unfold R64; omega)
  rw [show hiW (9223372036854775807 * 2) = 0 by unfold hiW; omega, show loW (9223372036854775807 * 2) = 18446744073709551614 by unfold loW; omega] at h
  exact h

theorem sh5 (w : World) : Calls Tryz.prog 47 #[.int .i64 (-1)] w fun e w' => e = .returned (.agg #[.int .i64 (-1), .int .u64 18446744073709551615]) ∧ ∃ x : Later w, w' = x.out := by
  have h := of_c (-1) w (by unfold R64; omega)
  rw [show hiW (-1) = -1 by unfold hiW; omega, show loW (-1) = 18446744073709551615 by unfold loW; omega] at h
  exact h

theorem sh6 (w : World) : Calls Tryz.prog 47 #[.int .i64 1] w fun e w' => e = .returned (.agg #[.int .i64 0, .int .u64 1]) ∧ ∃ x : Later w, w' = x.out := by
  have h := of_c 1 w (by unfold R64; omega)
  rw [show hiW 1 = 0 by unfold hiW; omega, show loW 1 = 1 by unfold loW; omega] at h
  exact h

theorem sh7 (w : World) : Calls Tryz.prog 100 #[.agg #[.int .i64 (-1), .int .u64 18446744073709551615], .agg #[.int .i64 0, .int .u64 1]] w fun e w' => e = .returned (.int .i64 (-1)) ∧ ∃ x : Later w, w' = x.out := by
  have h := cmp_c (-1) 1 w (by unfold R128; omega) (by unfold R128; omega)
  rw [show hiW (-1) = -1 by unfold hiW; omega, show loW (-1) = 18446744073709551615 by unfold loW; omega, show hiW 1 = 0 by unfold hiW; omega, show loW 1 = 1 by unfold loW; omega, show ordW (-1) 1 = -1 by unfold ordW; omega] at h
  exact h


end Go.Proofs.YtjmagehfkcnjjaaGreatDoor
