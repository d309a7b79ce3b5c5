/-
  The contract of the reference's quotient; what each layer shows of itself.
-/
import Derived.Test.YtjmagehfkcnjjaaDoorW7
namespace Go.Proofs.YtjmagehfkcnjjaaDoor
set_option linter.unusedVariables false
open Go.RowKit

theorem sh1 (w : World) : Calls Tryd.prog 54 #[.int .i64 (-7)] w fun e w' => e = .returned (.agg #[.int .i64 (-1), .int .u64 18446744073709551609]) ∧ ∃ x : Later w, w' = x.out := by
  have h := of_c (-7) w (by unfold R64; omega)
  rw [show hiW (-7) = -1 by unfold hiW; omega, show loW (-7) = 18446744073709551609 by unfold loW; omega] at h
  exact h

theorem sh2 (w : World) : Calls Tryd.prog 51 #[.agg #[.int .i64 (-1), .int .u64 18446744073709551609], .int .i64 2] w fun e w' => e = .returned (.tuple #[.agg #[.int .i64 (-1), .int .u64 18446744073709551612], .int .i64 1, .int .i64 0]) ∧ ∃ x : Later w, w' = x.out := by
  have h := div_c (-7) 2 w (by unfold R128; omega) (by omega) (by omega)
  rw [show hiW (-7) = -1 by unfold hiW; omega, show loW (-7) = 18446744073709551609 by unfold loW; omega, show (-7 : Int) / 2 = -4 by omega, show (-7 : Int) % 2 = 1 by omega, show hiW (-4) = -1 by unfold hiW; omega, show loW (-4) = 18446744073709551612 by unfold loW; omega] at h
  exact h

theorem sh3 (w : World) : Calls Tryd.prog 55 #[.agg #[.int .i64 (-1), .int .u64 18446744073709551612]] w fun e w' => e = .returned (.tuple #[.int .i64 (-4), .bool true]) ∧ ∃ x : Later w, w' = x.out := by
  have h := narrow_yes (-4) w (by unfold R64; omega)
  rw [show hiW (-4) = -1 by unfold hiW; omega, show loW (-4) = 18446744073709551612 by unfold loW; omega] at h
  exact h

theorem sh4 (w : World) : Calls Tryd.prog 52 #[.int .i64 9223372036854775807, .int .i64 2] w fun e w' => e = .returned (.agg #[.int .i64 0, .int .u64 18446744073709551614]) ∧ ∃ x : Later w, w' = x.out := by
  have h := mul_c 9223372036854775807 2 w (by unfold R64; omega) (by unfold R64; omega)
  rw [show hiW (9223372036854775807 * 2) = 0 by unfold hiW; omega, show loW (9223372036854775807 * 2) = 18446744073709551614 by unfold loW; omega] at h
  exact h

theorem sh5 (w : World) : Calls Tryd.prog 54 #[.int .i64 (-1)] w fun e w' => e = .returned (.agg #[.int .i64 (-1), .int .u64 18446744073709551615]) ∧ ∃ x : Later w, w' = x.out := by
  have h := of_c (-1) w (by unfold R64; omega)
  rw [show hiW (-1) = -1 by unfold hiW; omega, show loW (-1) = 18446744073709551615 by unfold loW; omega] at h
  exact h

theorem sh6 (w : World) : Calls Tryd.prog 54 #[.int .i64 1] w fun e w' => e = .returned (.agg #[.int .i64 0, .int .u64 1]) ∧ ∃ x : Later w, w' = x.out := by
  have h := of_c 1 w (by unfold R64; omega)
  rw [show hiW 1 = 0 by unfold hiW; omega, show loW 1 = 1 by unfold loW; omega] at h
  exact h

theorem sh7 (w : World) : Calls Tryd.prog 104 #[.agg #[.int .i64 (-1), .int .u64 18446744073709551615], .agg #[.int .i64 0, .int .u64 1]] w fun e w' => e = .returned (.int .i64 (-1)) ∧ ∃ x : Later w, w' = x.out := by
  have h := cmp_c (-1) 1 w (by unfold R128; omega) (by unfold R128; omega)
  rw [show hiW (-1) = -1 by unfold hiW; omega, show loW (-1) = 18446744073709551615 by unfold loW; omega, show hiW 1 = 0 by unfold hiW; omega, show loW 1 = 1 by unfold loW; omega, show ordW (-1) 1 = -1 by unfold ordW; omega] at h
  exact h


end Go.Proofs.YtjmagehfkcnjjaaDoor
