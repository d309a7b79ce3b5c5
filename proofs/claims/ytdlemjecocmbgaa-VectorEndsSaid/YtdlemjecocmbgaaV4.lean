/-
  Lengths of what is near; what the layer shows of itself.
-/
import Derived.Test.YtdlemjecocmbgaaV3
namespace Go.Proofs.Ytdlemjecocmbgaa
set_option linter.unusedVariables false
open Go.RowKit

/-- squares of what is near -/
theorem near_sq (p : Int) (h1 : -1073741824 ≤ p) (h2 : p ≤ 1073741824) : 0 ≤ p * p ∧ p * p ≤ 1152921504606846976 := by
  have := Int.mul_le_mul_of_natAbs_le (x := p) (y := p) (s := 1073741824) (t := 1073741824) (by omega) (by omega)
  have h0 : 0 ≤ p * p := by
    rcases Int.lt_or_le p 0 with h | h
    · exact Int.mul_nonneg_of_nonpos_of_nonpos (by omega) (by omega)
    · exact Int.mul_nonneg h h
  omega
theorem root_near {D r : Int} (h : IsRoot D r) (hD : D ≤ 2305843009213693952) : r < 1518500250 := root_lt h _ (by omega) (by omega)

theorem ptLen_c (p q r : Int) (w : World) (h1 : -1073741824 ≤ p) (h2 : p ≤ 1073741824) (h3 : -1073741824 ≤ q) (h4 : q ≤ 1073741824) (HR : IsRoot (p * p + q * q) r) : Calls Try.prog 12 #[.agg #[.int .i64 p, .int .i64 q]] w fun e w' => e = .returned (.int .i64 r) ∧ ∃ x : Later w, w' = x.out := by
  have s1 := near_sq p h1 h2
  have s2 := near_sq q h3 h4
  have lt := root_near HR (by omega)
  have r0 := HR.r0
  exact ptLen_c0 p q _ r w (by rw [w64_add, w64_in _ (by unfold R64; omega), IntWalk.u64_in _ (by omega)]) (w64_in _ (by unfold R64; omega)) (fun v => sqrt_c _ r v (by omega) (by omega) HR)
theorem ptLen_r (p q r : Int) (w : World) (h1 : -1073741824 ≤ p) (h2 : p ≤ 1073741824) (h3 : -1073741824 ≤ q) (h4 : q ≤ 1073741824) (HR : IsRoot (p * p + q * q) r) : Calls Try.prog 28 #[.agg #[.int .i64 p, .int .i64 q]] w fun e w' => e = .returned (.int .i64 r) ∧ ∃ x : Later w, w' = x.out := by
  have s1 := near_sq p h1 h2
  have s2 := near_sq q h3 h4
  have lt := root_near HR (by omega)
  have r0 := HR.r0
  exact ptLen_r0 p q _ r w (by rw [w64_in _ (by unfold R64; omega), IntWalk.u64_in _ (by omega)]) (w64_in _ (by unfold R64; omega)) (fun v => sqrt_r _ r v (by omega) (by omega) HR)

theorem vs1 (w : World) : Calls Try.prog 29 #[.agg #[.int .i64 3, .int .i64 4], .int .i64 10] w fun e w' => e = .returned (.agg #[.int .i64 6, .int .i64 8]) ∧ ∃ x : Later w, w' = x.out := by
  have e1 : nrst (3 * 10) 5 = 6 := by decide
  have e2 : nrst (4 * 10) 5 = 8 := by decide
  have c1 := fun v => near_c 3 10 5 v (by unfold R64; omega) (by unfold R64; omega) (by omega) (by omega) (by rw [e1]; unfold R64; omega)
  have c2 := fun v => near_c 4 10 5 v (by unfold R64; omega) (by unfold R64; omega) (by omega) (by omega) (by rw [e2]; unfold R64; omega)
  rw [e1] at c1
  rw [e2] at c2
  exact ptNorm_c1 3 4 10 25 5 6 8 w (by simp only [IntKind.wrap_u64]; unfold wrap64; omega) (by unfold wrap64; omega) (by rfl) (fun v => sqrt_c 25 5 v (by omega) (by omega) ⟨by omega, by omega, by omega⟩) (fun v => scaled_c 3 4 10 5 6 8 v c1 c2)
theorem vs2 (w : World) : Calls Try.prog 15 #[.agg #[.int .i64 1, .int .i64 0]] w fun e w' => e = .returned (.agg #[.int .i64 0, .int .i64 1]) ∧ ∃ x : Later w, w' = x.out := by
  have h := ptLeft_c 1 0 w
  rwa [show wrap64 (-0) = 0 by unfold wrap64; omega] at h
theorem vs3 (w : World) : Calls Try.prog 20 #[.agg #[.int .i64 5, .int .i64 5]] w fun e w' => e = .returned (.bool true) ∧ ∃ x : Later w, w' = x.out := ptNear_c 5 5 w

set_option maxRecDepth 100000 in
set_option maxHeartbeats 600000 in
theorem shown_4 (w : World) : Calls Try.prog 11 #[] w fun e w' => e = .returned (.bool true) ∧ ∃ x : Later w, w' = x.out := by
  go_enter Try.func11, Try.ntmps11
  go_wp2_with (first | (go_at_call 29; (with_reducible refine (vs1 _).mono ?_); rintro e _ ⟨rfl, x, rfl⟩) | (go_at_call 15; (with_reducible refine (vs2 _).mono ?_); rintro e _ ⟨rfl, x, rfl⟩) | (go_at_call 20; (with_reducible refine (vs3 _).mono ?_); rintro e _ ⟨rfl, x, rfl⟩))
  go_ret
  exact ⟨rfl, (Later.mk_of (by repeat (first | (with_reducible assumption) | (with_reducible exact Below.refl _ _) | (with_reducible refine Later.after ?_ _) | (with_reducible refine Later.newer ?_ _) | (with_reducible refine Below.drew ?_) | (with_reducible refine Below.setCell ?_ (by first | exact Nat.le_refl _ | exact Nat.le_add_right _ _ | omega | (simp [go_sem]; done) | (simp [go_sem]; omega)) _))))⟩
end Go.Proofs.Ytdlemjecocmbgaa
