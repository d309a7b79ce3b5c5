/-
  The contracts of places on a way.
-/
import Derived.Test.YtdlemjecocmbgaaV2
namespace Go.Proofs.Ytdlemjecocmbgaa
set_option linter.unusedVariables false
open Go.RowKit


set_option maxRecDepth 100000 in
set_option maxHeartbeats 400000 in
theorem ptAlong_c1 (p q z u k n d f X Y P Q : Int) (w : World)
    (h : 1 ≤ n) (e1 : wrap64 (p + X) = P) (e2 : wrap64 (q + Y) = Q) (c1 : ∀ w', Calls Try.prog 17 #[.agg #[.int .i64 z, .int .i64 u], .agg #[.int .i64 p, .int .i64 q]] w' fun e w'' => e = .returned (.agg #[.int .i64 d, .int .i64 f]) ∧ ∃ x : Later w', w'' = x.out)(c2 : ∀ w', Calls Try.prog 44 #[.agg #[.int .i64 d, .int .i64 f], .int .i64 k, .int .i64 n] w' fun e w'' => e = .returned (.agg #[.int .i64 X, .int .i64 Y]) ∧ ∃ x : Later w', w'' = x.out) :
    Calls Try.prog 19 #[.agg #[.int .i64 p, .int .i64 q], .agg #[.int .i64 z, .int .i64 u], .int .i64 k, .int .i64 n] w fun e w' => e = .returned (.agg #[.int .i64 P, .int .i64 Q]) ∧ ∃ x : Later w, w' = x.out := by
  have Hc1 := Lib.hid c1; clear c1
  have Hc2 := Lib.hid c2; clear c2
  go_enter Try.func19, Try.ntmps19
  go_wp2_with (fail)
  refine wp_region_later_tail 8 (by kernel_rfl) (by kernel_rfl) ?_
  simp only [List.take_succ_cons, List.take_zero, List.drop_succ_cons, List.drop_zero]
  repeat (go_big_quiet_step ((first | (go_at_call 17; with_reducible exact Later.call _ (Hc1.out _)) | (go_at_call 44; with_reducible exact Later.call _ (Hc2.out _)) | (go_at_call 16; with_reducible exact Later.call _ (ptAdd_c _ _ _ _ _)))))
  refine wpQuiet_nil ?_
  intro x
  have g8 : w.heap.size + 1 + 1 < x.out.heap.size := Later.lt x _ (by simp [go_sem])
  go_wp2
  exact bodyPost_ret (v := .agg #[.int .i64 P, .int .i64 Q]) (by simp [results, Try.results19, go_sem, *]) rfl ⟨rfl, (Later.mk_of (by repeat (first | (with_reducible assumption) | (with_reducible exact Below.refl _ _) | (with_reducible refine Later.after ?_ _) | (with_reducible refine Later.newer ?_ _) | (with_reducible refine Below.drew ?_) | (with_reducible refine Below.setCell ?_ (by first | exact Nat.le_refl _ | exact Nat.le_add_right _ _ | omega | (simp [go_sem]; done) | (simp [go_sem]; omega)) _))))⟩


set_option maxRecDepth 100000 in
set_option maxHeartbeats 400000 in
theorem ptAlong_r1 (p q z u k n d f X Y P Q : Int) (w : World)
    (h : 1 ≤ n) (e1 : wrap64 (p + X) = P) (e2 : wrap64 (q + Y) = Q) (e3 : wrap64 (z - p) = d) (e4 : wrap64 (u - q) = f) (c2 : ∀ w', Calls Try.prog 47 #[.int .i64 d, .int .i64 k, .int .i64 n] w' fun e w'' => e = .returned (.tuple #[.int .i64 X, .int .i64 0]) ∧ ∃ x : Later w', w'' = x.out)(c3 : ∀ w', Calls Try.prog 47 #[.int .i64 f, .int .i64 k, .int .i64 n] w' fun e w'' => e = .returned (.tuple #[.int .i64 Y, .int .i64 0]) ∧ ∃ x : Later w', w'' = x.out) :
    Calls Try.prog 31 #[.agg #[.int .i64 p, .int .i64 q], .agg #[.int .i64 z, .int .i64 u], .int .i64 k, .int .i64 n] w fun e w' => e = .returned (.agg #[.int .i64 P, .int .i64 Q]) ∧ ∃ x : Later w, w' = x.out := by
  have Hc2 := Lib.hid c2; clear c2
  have Hc3 := Lib.hid c3; clear c3
  go_enter Try.func31, Try.ntmps31
  go_wp2_with (first | (go_at_call 47; (with_reducible refine (Hc2.out _).mono ?_); rintro e _ ⟨rfl, x, rfl⟩) | (go_at_call 47; (with_reducible refine (Hc3.out _).mono ?_); rintro e _ ⟨rfl, x, rfl⟩))
  exact bodyPost_ret (v := .agg #[.int .i64 P, .int .i64 Q]) (by simp [results, Try.results31, go_sem, *]) rfl ⟨rfl, (Later.mk_of (by repeat (first | (with_reducible assumption) | (with_reducible exact Below.refl _ _) | (with_reducible refine Later.after ?_ _) | (with_reducible refine Later.newer ?_ _) | (with_reducible refine Below.drew ?_) | (with_reducible refine Below.setCell ?_ (by first | exact Nat.le_refl _ | exact Nat.le_add_right _ _ | omega | (simp [go_sem]; done) | (simp [go_sem]; omega)) _))))⟩

end Go.Proofs.Ytdlemjecocmbgaa
