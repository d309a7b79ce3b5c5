/-
  What the layer shows of itself.
-/
import Derived.Test.YtfaiepalmkobeaaR3
namespace Go.Proofs.Ytfaiepalmkobeaa
set_option linter.unusedVariables false
open Go.RowKit

theorem rs1 (w : World) : Calls Try.prog 32 #[.int .u64 99] w fun e w' => e = .returned (.int .u64 9) ∧ ∃ x : Later w, w' = x.out := by
  exact sqrt_c 99 9 w (by omega) (by omega) ⟨by omega, by omega, by omega⟩

theorem rs2 (w : World) : Calls Try.prog 36 #[.int .u64 100] w fun e w' => e = .returned (.bool true) ∧ ∃ x : Later w, w' = x.out := by
  have h := square_c 100 10 w (by omega) (by omega) ⟨by omega, by omega, by omega⟩
  rwa [show ((10 : Int) * 10 == 100) = true from rfl] at h

theorem rs3 (w : World) : Calls Try.prog 36 #[.int .u64 99] w fun e w' => e = .returned (.bool false) ∧ ∃ x : Later w, w' = x.out := by
  have h := square_c 99 9 w (by omega) (by omega) ⟨by omega, by omega, by omega⟩
  rwa [show ((9 : Int) * 9 == 99) = false from rfl] at h

theorem rs4 (w : World) : Calls Try.prog 23 #[.int .i64 9223372036854775807, .int .i64 9223372036854775807] w fun e w' => e = .returned (.agg #[.int .i64 4611686018427387903, .int .u64 1]) ∧ ∃ x : Later w, w' = x.out := by
  have h := mul_c 9223372036854775807 9223372036854775807 w (by unfold R64; omega) (by unfold R64; omega)
  rwa [show hiW (9223372036854775807 * 9223372036854775807) = 4611686018427387903 by unfold hiW; omega, show loW (9223372036854775807 * 9223372036854775807) = 1 by unfold loW; omega] at h

theorem rs5 (w : World) : Calls Try.prog 34 #[.agg #[.int .i64 4611686018427387903, .int .u64 1]] w fun e w' => e = .returned (.int .u64 9223372036854775807) ∧ ∃ x : Later w, w' = x.out := by
  have h := long_c (9223372036854775807 * 9223372036854775807) 9223372036854775807 w (by unfold R128; omega) (by omega) ⟨by omega, by omega, by omega⟩
  rwa [show hiW (9223372036854775807 * 9223372036854775807) = 4611686018427387903 by unfold hiW; omega, show loW (9223372036854775807 * 9223372036854775807) = 1 by unfold loW; omega] at h

set_option maxRecDepth 100000 in
set_option maxHeartbeats 600000 in
theorem shown_2 (w : World) : Calls Try.prog 38 #[] w fun e w' => e = .returned (.bool true) ∧ ∃ x : Later w, w' = x.out := by
  go_enter Try.func38, Try.ntmps38
  go_wp2_with (first | (go_at_call 32; (with_reducible refine (rs1 _).mono ?_); rintro e _ ⟨rfl, x, rfl⟩) | (go_at_call 36; (with_reducible refine (rs2 _).mono ?_); rintro e _ ⟨rfl, x, rfl⟩) | (go_at_call 36; (with_reducible refine (rs3 _).mono ?_); rintro e _ ⟨rfl, x, rfl⟩) | (go_at_call 23; (with_reducible refine (rs4 _).mono ?_); rintro e _ ⟨rfl, x, rfl⟩) | (go_at_call 34; (with_reducible refine (rs5 _).mono ?_); rintro e _ ⟨rfl, x, rfl⟩))
  go_ret
  exact ⟨rfl, (Later.mk_of (by repeat (first | (with_reducible assumption) | (with_reducible exact Below.refl _ _) | (with_reducible refine Later.after ?_ _) | (with_reducible refine Later.newer ?_ _) | (with_reducible refine Below.drew ?_) | (with_reducible refine Below.setCell ?_ (by first | exact Nat.le_refl _ | exact Nat.le_add_right _ _ | omega | (simp [go_sem]; done) | (simp [go_sem]; omega)) _))))⟩
end Go.Proofs.Ytfaiepalmkobeaa
