/-
  Flat for any segment; the law's own small case (layer 9).
-/
import Derived.Test.YtdlemjecocmbgaaB9
import Derived.Test.YtdlemjecocmbgaaG2
namespace Go.Proofs.Ytdlemjecocmbgaa
set_option linter.unusedVariables false
open Go.RowKit

theorem flat_E (s : En) (g : GoodE s) (t : Int) (t0 : 0 ≤ t) (t9 : t ≤ 4611686018427387904) (w : World) : Calls Try.prog 37 #[.agg #[.int .i64 (s 0), .int .i64 (s 1), .int .i64 (s 2), .int .i64 (s 3), .int .i64 (s 4), .int .i64 (s 5), .int .i64 (s 6), .int .i64 (s 7), .int .i64 (s 8)], .int .i64 t] w fun e w' => e = .returned (.bool (fltB s t)) ∧ ∃ x : Later w, w' = x.out := by
  rcases nn_of g with ⟨h, h8⟩ | ⟨h, h8⟩ | ⟨h, h8⟩
  · have ef : fltB s t = true := by simp [fltB, h]
    rw [ef, h8]
    exact flat_2 (s 0) (s 1) (s 2) (s 3) (s 4) (s 5) (s 6) (s 7) t w
  · exact flat_E3 s g h h8 t t0 t9 w
  · exact flat_E4 s g h h8 t t0 t9 w
def e9 : En := fun i => if i = 2 ∨ i = 4 ∨ i = 5 then 4 else if i = 8 then 3 else 0
theorem e9_good : GoodE e9 := goodB_good e9 (by decide) (by decide)
theorem apt_is (p q z u r : Int) (h : IsRoot ((z - p) * (z - p) + (u - q) * (u - q)) r) (h0 : 0 ≤ (z - p) * (z - p) + (u - q) * (u - q)) : apt p q z u = r := isq_of h0 h
theorem e9_halves (w : World) : Calls Try.prog 34 #[.agg #[.int .i64 0, .int .i64 0, .int .i64 4, .int .i64 0, .int .i64 4, .int .i64 4, .int .i64 0, .int .i64 0, .int .i64 3]] w fun e w' => e = .returned (.tuple #[.agg #[.int .i64 0, .int .i64 0, .int .i64 2, .int .i64 0, .int .i64 3, .int .i64 1, .int .i64 0, .int .i64 0, .int .i64 3], .agg #[.int .i64 3, .int .i64 1, .int .i64 4, .int .i64 2, .int .i64 4, .int .i64 4, .int .i64 0, .int .i64 0, .int .i64 3]]) ∧ ∃ x : Later w, w' = x.out := halves_E e9 e9_good w
theorem e9_at (w : World) : Calls Try.prog 36 #[.agg #[.int .i64 0, .int .i64 0, .int .i64 4, .int .i64 0, .int .i64 4, .int .i64 4, .int .i64 0, .int .i64 0, .int .i64 3], .int .i64 1, .int .i64 2] w fun e w' => e = .returned (.agg #[.int .i64 3, .int .i64 1]) ∧ ∃ x : Later w, w' = x.out := at_E e9 e9_good 1 2 (by omega) (by omega) (by omega) (by omega) w
theorem e9_chord (w : World) : Calls Try.prog 39 #[.agg #[.int .i64 0, .int .i64 0, .int .i64 4, .int .i64 0, .int .i64 4, .int .i64 4, .int .i64 0, .int .i64 0, .int .i64 3]] w fun e w' => e = .returned (.int .i64 5) ∧ ∃ x : Later w, w' = x.out := by
  have h := chord_E e9 e9_good w
  rw [show chdE e9 = 5 from apt_is 0 0 4 4 5 ⟨by decide, by decide, by decide⟩ (by decide)] at h
  exact h
theorem e9_legs (w : World) : Calls Try.prog 38 #[.agg #[.int .i64 0, .int .i64 0, .int .i64 4, .int .i64 0, .int .i64 4, .int .i64 4, .int .i64 0, .int .i64 0, .int .i64 3]] w fun e w' => e = .returned (.int .i64 8) ∧ ∃ x : Later w, w' = x.out := by
  have h := legs_E e9 e9_good w
  rw [show lgsE e9 = 8 by
    show apt 0 0 4 0 + apt 4 0 4 4 = 8
    rw [apt_is 0 0 4 0 4 ⟨by decide, by decide, by decide⟩ (by decide), apt_is 4 0 4 4 4 ⟨by decide, by decide, by decide⟩ (by decide)]; rfl] at h
  exact h
theorem e9_flat2 (w : World) : Calls Try.prog 37 #[.agg #[.int .i64 0, .int .i64 0, .int .i64 4, .int .i64 0, .int .i64 4, .int .i64 4, .int .i64 0, .int .i64 0, .int .i64 3], .int .i64 2] w fun e w' => e = .returned (.bool true) ∧ ∃ x : Later w, w' = x.out := flat_E e9 e9_good 2 (by omega) (by omega) w
theorem e9_flat1 (w : World) : Calls Try.prog 37 #[.agg #[.int .i64 0, .int .i64 0, .int .i64 4, .int .i64 0, .int .i64 4, .int .i64 4, .int .i64 0, .int .i64 0, .int .i64 3], .int .i64 1] w fun e w' => e = .returned (.bool false) ∧ ∃ x : Later w, w' = x.out := flat_E e9 e9_good 1 (by omega) (by omega) w
/-- two arrays of the same four points are the same -/
@[go_sem] theorem eqArr_same (x0 y0 x1 y1 x2 y2 x3 y3 : Int) (w : World) : (Op.equalIn 9999 37 (.agg #[.int .i64 x0, .int .i64 y0, .int .i64 x1, .int .i64 y1, .int .i64 x2, .int .i64 y2, .int .i64 x3, .int .i64 y3]) (.agg #[.int .i64 x0, .int .i64 y0, .int .i64 x1, .int .i64 y1, .int .i64 x2, .int .i64 y2, .int .i64 x3, .int .i64 y3])).run Try.prog w = .ok true w := by
  rw [show (9999 : Nat) = 9998 + 1 from rfl, Op.equalIn]
  simp only [Sem.run_bind, run_underlying Try.underlying37, Result.andThen_ok]
  simp only [Std.Legacy.Range.forIn_eq_forIn_range', Std.Legacy.Range.size, Nat.sub_zero, Nat.add_sub_cancel, Nat.div_one, List.range'_succ, List.range'_zero, List.forIn_cons, List.forIn_nil]
  go_simp
set_option maxRecDepth 100000 in
set_option maxHeartbeats 2000000 in
theorem shown_9 (w : World) : Calls Try.prog 33 #[] w fun e w' => e = .returned (.bool true) ∧ ∃ x : Later w, w' = x.out := by
  go_enter Try.func33, Try.ntmps33
  go_wp2_with (first | (go_at_call 34; (with_reducible refine (e9_halves _).mono ?_); rintro e _ ⟨rfl, x, rfl⟩) | (go_at_call 36; (with_reducible refine (e9_at _).mono ?_); rintro e _ ⟨rfl, x, rfl⟩) | (go_at_call 39; (with_reducible refine (e9_chord _).mono ?_); rintro e _ ⟨rfl, x, rfl⟩) | (go_at_call 38; (with_reducible refine (e9_legs _).mono ?_); rintro e _ ⟨rfl, x, rfl⟩) | (go_at_call 37; (with_reducible refine (e9_flat2 _).mono ?_); rintro e _ ⟨rfl, x, rfl⟩) | (go_at_call 37; (with_reducible refine (e9_flat1 _).mono ?_); rintro e _ ⟨rfl, x, rfl⟩))
  exact bodyPost_ret (v := .bool true) (by simp [results, Try.results33, go_sem, *]) rfl ⟨rfl, (Later.mk_of (by repeat (first | (with_reducible assumption) | (with_reducible exact Below.refl _ _) | (with_reducible refine Later.after ?_ _) | (with_reducible refine Later.newer ?_ _) | (with_reducible refine Below.drew ?_) | (with_reducible refine Below.setCell ?_ (by first | exact Nat.le_refl _ | exact Nat.le_add_right _ _ | omega | (simp [go_sem]; done) | (simp [go_sem]; omega)) _))))⟩
end Go.Proofs.Ytdlemjecocmbgaa
