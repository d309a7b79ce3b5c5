/-
  The contracts of the vectors, and of the reference's.
-/
import Derived.Test.YtdlemjecocmbgaaF1
import Derived.Test.YtdlemjecocmbgaaR6
namespace Go.Proofs.Ytdlemjecocmbgaa
set_option linter.unusedVariables false
open Go.RowKit

theorem w64_add (a b : Int) : wrap64 (wrap64 a + wrap64 b) = wrap64 (a + b) := by unfold wrap64; omega
theorem w64_sub (a b : Int) : wrap64 (wrap64 a - wrap64 b) = wrap64 (a - b) := by unfold wrap64; omega
theorem w64_addneg (a b : Int) : wrap64 (a + wrap64 (-b)) = wrap64 (a - b) := by unfold wrap64; omega
theorem w64_in (a : Int) (h : R64 a) : wrap64 a = a := by unfold R64 at h; unfold wrap64; omega


set_option maxRecDepth 100000 in
set_option maxHeartbeats 400000 in
theorem ptAdd_c (p q z u : Int) (w : World) :
    Calls Try.prog 16 #[.agg #[.int .i64 p, .int .i64 q], .agg #[.int .i64 z, .int .i64 u]] w fun e w' => e = .returned (.agg #[.int .i64 (wrap64 (p + z)), .int .i64 (wrap64 (q + u))]) ∧ ∃ x : Later w, w' = x.out := by
  go_enter Try.func16, Try.ntmps16
  go_wp2_with (fail)
  exact bodyPost_ret (v := .agg #[.int .i64 (wrap64 (p + z)), .int .i64 (wrap64 (q + u))]) (by simp [results, Try.results16, go_sem, *]) rfl ⟨rfl, (Later.mk_of (by repeat (first | (with_reducible assumption) | (with_reducible exact Below.refl _ _) | (with_reducible refine Later.after ?_ _) | (with_reducible refine Later.newer ?_ _) | (with_reducible refine Below.drew ?_) | (with_reducible refine Below.setCell ?_ (by first | exact Nat.le_refl _ | exact Nat.le_add_right _ _ | omega | (simp [go_sem]; done) | (simp [go_sem]; omega)) _))))⟩


set_option maxRecDepth 100000 in
set_option maxHeartbeats 400000 in
theorem ptNeg_c (p q : Int) (w : World) :
    Calls Try.prog 14 #[.agg #[.int .i64 p, .int .i64 q]] w fun e w' => e = .returned (.agg #[.int .i64 (wrap64 (-p)), .int .i64 (wrap64 (-q))]) ∧ ∃ x : Later w, w' = x.out := by
  go_enter Try.func14, Try.ntmps14
  go_wp2_with (fail)
  exact bodyPost_ret (v := .agg #[.int .i64 (wrap64 (-p)), .int .i64 (wrap64 (-q))]) (by simp [results, Try.results14, go_sem, *]) rfl ⟨rfl, (Later.mk_of (by repeat (first | (with_reducible assumption) | (with_reducible exact Below.refl _ _) | (with_reducible refine Later.after ?_ _) | (with_reducible refine Later.newer ?_ _) | (with_reducible refine Below.drew ?_) | (with_reducible refine Below.setCell ?_ (by first | exact Nat.le_refl _ | exact Nat.le_add_right _ _ | omega | (simp [go_sem]; done) | (simp [go_sem]; omega)) _))))⟩


set_option maxRecDepth 100000 in
set_option maxHeartbeats 400000 in
theorem ptLeft_c (p q : Int) (w : World) :
    Calls Try.prog 15 #[.agg #[.int .i64 p, .int .i64 q]] w fun e w' => e = .returned (.agg #[.int .i64 (wrap64 (-q)), .int .i64 p]) ∧ ∃ x : Later w, w' = x.out := by
  go_enter Try.func15, Try.ntmps15
  go_wp2_with (fail)
  exact bodyPost_ret (v := .agg #[.int .i64 (wrap64 (-q)), .int .i64 p]) (by simp [results, Try.results15, go_sem, *]) rfl ⟨rfl, (Later.mk_of (by repeat (first | (with_reducible assumption) | (with_reducible exact Below.refl _ _) | (with_reducible refine Later.after ?_ _) | (with_reducible refine Later.newer ?_ _) | (with_reducible refine Below.drew ?_) | (with_reducible refine Below.setCell ?_ (by first | exact Nat.le_refl _ | exact Nat.le_add_right _ _ | omega | (simp [go_sem]; done) | (simp [go_sem]; omega)) _))))⟩


set_option maxRecDepth 100000 in
set_option maxHeartbeats 400000 in
theorem ptAdd_r (p q z u : Int) (w : World) :
    Calls Try.prog 22 #[.agg #[.int .i64 p, .int .i64 q], .agg #[.int .i64 z, .int .i64 u]] w fun e w' => e = .returned (.agg #[.int .i64 (wrap64 (p + z)), .int .i64 (wrap64 (q + u))]) ∧ ∃ x : Later w, w' = x.out := by
  go_enter Try.func22, Try.ntmps22
  go_wp2_with (fail)
  exact bodyPost_ret (v := .agg #[.int .i64 (wrap64 (p + z)), .int .i64 (wrap64 (q + u))]) (by simp [results, Try.results22, go_sem, *]) rfl ⟨rfl, (Later.mk_of (by repeat (first | (with_reducible assumption) | (with_reducible exact Below.refl _ _) | (with_reducible refine Later.after ?_ _) | (with_reducible refine Later.newer ?_ _) | (with_reducible refine Below.drew ?_) | (with_reducible refine Below.setCell ?_ (by first | exact Nat.le_refl _ | exact Nat.le_add_right _ _ | omega | (simp [go_sem]; done) | (simp [go_sem]; omega)) _))))⟩


set_option maxRecDepth 100000 in
set_option maxHeartbeats 400000 in
theorem ptNeg_r (p q : Int) (w : World) :
    Calls Try.prog 24 #[.agg #[.int .i64 p, .int .i64 q]] w fun e w' => e = .returned (.agg #[.int .i64 (wrap64 (-p)), .int .i64 (wrap64 (-q))]) ∧ ∃ x : Later w, w' = x.out := by
  go_enter Try.func24, Try.ntmps24
  go_wp2_with (fail)
  exact bodyPost_ret (v := .agg #[.int .i64 (wrap64 (-p)), .int .i64 (wrap64 (-q))]) (by simp [results, Try.results24, go_sem, *]) rfl ⟨rfl, (Later.mk_of (by repeat (first | (with_reducible assumption) | (with_reducible exact Below.refl _ _) | (with_reducible refine Later.after ?_ _) | (with_reducible refine Later.newer ?_ _) | (with_reducible refine Below.drew ?_) | (with_reducible refine Below.setCell ?_ (by first | exact Nat.le_refl _ | exact Nat.le_add_right _ _ | omega | (simp [go_sem]; done) | (simp [go_sem]; omega)) _))))⟩


set_option maxRecDepth 100000 in
set_option maxHeartbeats 400000 in
theorem ptLeft_r (p q : Int) (w : World) :
    Calls Try.prog 25 #[.agg #[.int .i64 p, .int .i64 q]] w fun e w' => e = .returned (.agg #[.int .i64 (wrap64 (-q)), .int .i64 p]) ∧ ∃ x : Later w, w' = x.out := by
  go_enter Try.func25, Try.ntmps25
  go_wp2_with (fail)
  exact bodyPost_ret (v := .agg #[.int .i64 (wrap64 (-q)), .int .i64 p]) (by simp [results, Try.results25, go_sem, *]) rfl ⟨rfl, (Later.mk_of (by repeat (first | (with_reducible assumption) | (with_reducible exact Below.refl _ _) | (with_reducible refine Later.after ?_ _) | (with_reducible refine Later.newer ?_ _) | (with_reducible refine Below.drew ?_) | (with_reducible refine Below.setCell ?_ (by first | exact Nat.le_refl _ | exact Nat.le_add_right _ _ | omega | (simp [go_sem]; done) | (simp [go_sem]; omega)) _))))⟩


set_option maxRecDepth 100000 in
set_option maxHeartbeats 400000 in
theorem ptSub_r (p q z u : Int) (w : World) :
    Calls Try.prog 23 #[.agg #[.int .i64 p, .int .i64 q], .agg #[.int .i64 z, .int .i64 u]] w fun e w' => e = .returned (.agg #[.int .i64 (wrap64 (p - z)), .int .i64 (wrap64 (q - u))]) ∧ ∃ x : Later w, w' = x.out := by
  go_enter Try.func23, Try.ntmps23
  go_wp2_with (fail)
  exact bodyPost_ret (v := .agg #[.int .i64 (wrap64 (p - z)), .int .i64 (wrap64 (q - u))]) (by simp [results, Try.results23, go_sem, *]) rfl ⟨rfl, (Later.mk_of (by repeat (first | (with_reducible assumption) | (with_reducible exact Below.refl _ _) | (with_reducible refine Later.after ?_ _) | (with_reducible refine Later.newer ?_ _) | (with_reducible refine Below.drew ?_) | (with_reducible refine Below.setCell ?_ (by first | exact Nat.le_refl _ | exact Nat.le_add_right _ _ | omega | (simp [go_sem]; done) | (simp [go_sem]; omega)) _))))⟩


set_option maxRecDepth 100000 in
set_option maxHeartbeats 400000 in
theorem ptSub_c0 (p q z u : Int) (w : World) :
    Calls Try.prog 17 #[.agg #[.int .i64 p, .int .i64 q], .agg #[.int .i64 z, .int .i64 u]] w fun e w' => e = .returned (.agg #[.int .i64 (wrap64 (p + wrap64 (-z))), .int .i64 (wrap64 (q + wrap64 (-u)))]) ∧ ∃ x : Later w, w' = x.out := by
  go_enter Try.func17, Try.ntmps17
  go_wp2_with (fail)
  refine wp_region_later_tail 4 (by kernel_rfl) (by kernel_rfl) ?_
  simp only [List.take_succ_cons, List.take_zero, List.drop_succ_cons, List.drop_zero]
  repeat (go_big_quiet_step ((first | (go_at_call 14; with_reducible exact Later.call _ (ptNeg_c _ _ _)) | (go_at_call 16; with_reducible exact Later.call _ (ptAdd_c _ _ _ _ _)))))
  refine wpQuiet_nil ?_
  intro x
  have g8 : w.heap.size + 1 + 1 < x.out.heap.size := Later.lt x _ (by simp [go_sem])
  go_wp2
  exact bodyPost_ret (v := .agg #[.int .i64 (wrap64 (p + wrap64 (-z))), .int .i64 (wrap64 (q + wrap64 (-u)))]) (by simp [results, Try.results17, go_sem, *]) rfl ⟨rfl, (Later.mk_of (by repeat (first | (with_reducible assumption) | (with_reducible exact Below.refl _ _) | (with_reducible refine Later.after ?_ _) | (with_reducible refine Later.newer ?_ _) | (with_reducible refine Below.drew ?_) | (with_reducible refine Below.setCell ?_ (by first | exact Nat.le_refl _ | exact Nat.le_add_right _ _ | omega | (simp [go_sem]; done) | (simp [go_sem]; omega)) _))))⟩


theorem ptSub_c (p q z u : Int) (w : World) :
    Calls Try.prog 17 #[.agg #[.int .i64 p, .int .i64 q], .agg #[.int .i64 z, .int .i64 u]] w fun e w' => e = .returned (.agg #[.int .i64 (wrap64 (p - z)), .int .i64 (wrap64 (q - u))]) ∧ ∃ x : Later w, w' = x.out := by
  rw [← w64_addneg p z, ← w64_addneg q u]
  exact ptSub_c0 p q z u w


set_option maxRecDepth 100000 in
set_option maxHeartbeats 400000 in
theorem ptDot_r0 (p q z u : Int) (w : World) :
    Calls Try.prog 26 #[.agg #[.int .i64 p, .int .i64 q], .agg #[.int .i64 z, .int .i64 u]] w fun e w' => e = .returned (.int .i64 (wrap64 (wrap64 (p * z) + wrap64 (q * u)))) ∧ ∃ x : Later w, w' = x.out := by
  go_enter Try.func26, Try.ntmps26
  go_wp2_with (fail)
  exact bodyPost_ret (v := .int .i64 (wrap64 (wrap64 (p * z) + wrap64 (q * u)))) (by simp [results, Try.results26, go_sem, *]) rfl ⟨rfl, (Later.mk_of (by repeat (first | (with_reducible assumption) | (with_reducible exact Below.refl _ _) | (with_reducible refine Later.after ?_ _) | (with_reducible refine Later.newer ?_ _) | (with_reducible refine Below.drew ?_) | (with_reducible refine Below.setCell ?_ (by first | exact Nat.le_refl _ | exact Nat.le_add_right _ _ | omega | (simp [go_sem]; done) | (simp [go_sem]; omega)) _))))⟩


set_option maxRecDepth 100000 in
set_option maxHeartbeats 400000 in
theorem ptDot_p (p q z u : Int) (w : World) :
    Calls Try.prog 42 #[.agg #[.int .i64 p, .int .i64 q, .int .i64 z, .int .i64 u]] w fun e w' => e = .returned (.int .i64 (wrap64 (wrap64 (p * z) + wrap64 (q * u)))) ∧ ∃ x : Later w, w' = x.out := by
  go_enter Try.func42, Try.ntmps42
  go_wp2_with (fail)
  exact bodyPost_ret (v := .int .i64 (wrap64 (wrap64 (p * z) + wrap64 (q * u)))) (by simp [results, Try.results42, go_sem, *]) rfl ⟨rfl, (Later.mk_of (by repeat (first | (with_reducible assumption) | (with_reducible exact Below.refl _ _) | (with_reducible refine Later.after ?_ _) | (with_reducible refine Later.newer ?_ _) | (with_reducible refine Below.drew ?_) | (with_reducible refine Below.setCell ?_ (by first | exact Nat.le_refl _ | exact Nat.le_add_right _ _ | omega | (simp [go_sem]; done) | (simp [go_sem]; omega)) _))))⟩


set_option maxRecDepth 100000 in
set_option maxHeartbeats 400000 in
theorem ptDot_c0 (p q z u : Int) (w : World) :
    Calls Try.prog 13 #[.agg #[.int .i64 p, .int .i64 q], .agg #[.int .i64 z, .int .i64 u]] w fun e w' => e = .returned (.int .i64 (wrap64 (wrap64 (p * z) + wrap64 (q * u)))) ∧ ∃ x : Later w, w' = x.out := by
  go_enter Try.func13, Try.ntmps13
  go_wp2_with (first | (go_at_call 42; (with_reducible refine (ptDot_p _ _ _ _ _).mono ?_); rintro e _ ⟨rfl, x, rfl⟩))
  exact bodyPost_ret (v := .int .i64 (wrap64 (wrap64 (p * z) + wrap64 (q * u)))) (by simp [results, Try.results13, go_sem, *]) rfl ⟨rfl, (Later.mk_of (by repeat (first | (with_reducible assumption) | (with_reducible exact Below.refl _ _) | (with_reducible refine Later.after ?_ _) | (with_reducible refine Later.newer ?_ _) | (with_reducible refine Below.drew ?_) | (with_reducible refine Below.setCell ?_ (by first | exact Nat.le_refl _ | exact Nat.le_add_right _ _ | omega | (simp [go_sem]; done) | (simp [go_sem]; omega)) _))))⟩


theorem ptDot_c (p q z u : Int) (w : World) :
    Calls Try.prog 13 #[.agg #[.int .i64 p, .int .i64 q], .agg #[.int .i64 z, .int .i64 u]] w fun e w' => e = .returned (.int .i64 (wrap64 (p * z + q * u))) ∧ ∃ x : Later w, w' = x.out := by
  rw [← w64_add]
  exact ptDot_c0 p q z u w


theorem ptDot_r (p q z u : Int) (w : World) :
    Calls Try.prog 26 #[.agg #[.int .i64 p, .int .i64 q], .agg #[.int .i64 z, .int .i64 u]] w fun e w' => e = .returned (.int .i64 (wrap64 (p * z + q * u))) ∧ ∃ x : Later w, w' = x.out := by
  rw [← w64_add]
  exact ptDot_r0 p q z u w


set_option maxRecDepth 100000 in
set_option maxHeartbeats 400000 in
theorem ptCross_r0 (p q z u : Int) (w : World) :
    Calls Try.prog 27 #[.agg #[.int .i64 p, .int .i64 q], .agg #[.int .i64 z, .int .i64 u]] w fun e w' => e = .returned (.int .i64 (wrap64 (wrap64 (p * u) - wrap64 (q * z)))) ∧ ∃ x : Later w, w' = x.out := by
  go_enter Try.func27, Try.ntmps27
  go_wp2_with (fail)
  exact bodyPost_ret (v := .int .i64 (wrap64 (wrap64 (p * u) - wrap64 (q * z)))) (by simp [results, Try.results27, go_sem, *]) rfl ⟨rfl, (Later.mk_of (by repeat (first | (with_reducible assumption) | (with_reducible exact Below.refl _ _) | (with_reducible refine Later.after ?_ _) | (with_reducible refine Later.newer ?_ _) | (with_reducible refine Below.drew ?_) | (with_reducible refine Below.setCell ?_ (by first | exact Nat.le_refl _ | exact Nat.le_add_right _ _ | omega | (simp [go_sem]; done) | (simp [go_sem]; omega)) _))))⟩


set_option maxRecDepth 100000 in
set_option maxHeartbeats 400000 in
theorem ptCross_p (p q z u : Int) (w : World) :
    Calls Try.prog 43 #[.agg #[.int .i64 p, .int .i64 q, .int .i64 z, .int .i64 u]] w fun e w' => e = .returned (.int .i64 (wrap64 (wrap64 (p * u) - wrap64 (q * z)))) ∧ ∃ x : Later w, w' = x.out := by
  go_enter Try.func43, Try.ntmps43
  go_wp2_with (fail)
  exact bodyPost_ret (v := .int .i64 (wrap64 (wrap64 (p * u) - wrap64 (q * z)))) (by simp [results, Try.results43, go_sem, *]) rfl ⟨rfl, (Later.mk_of (by repeat (first | (with_reducible assumption) | (with_reducible exact Below.refl _ _) | (with_reducible refine Later.after ?_ _) | (with_reducible refine Later.newer ?_ _) | (with_reducible refine Below.drew ?_) | (with_reducible refine Below.setCell ?_ (by first | exact Nat.le_refl _ | exact Nat.le_add_right _ _ | omega | (simp [go_sem]; done) | (simp [go_sem]; omega)) _))))⟩


set_option maxRecDepth 100000 in
set_option maxHeartbeats 400000 in
theorem ptCross_c0 (p q z u : Int) (w : World) :
    Calls Try.prog 18 #[.agg #[.int .i64 p, .int .i64 q], .agg #[.int .i64 z, .int .i64 u]] w fun e w' => e = .returned (.int .i64 (wrap64 (wrap64 (p * u) - wrap64 (q * z)))) ∧ ∃ x : Later w, w' = x.out := by
  go_enter Try.func18, Try.ntmps18
  go_wp2_with (first | (go_at_call 43; (with_reducible refine (ptCross_p _ _ _ _ _).mono ?_); rintro e _ ⟨rfl, x, rfl⟩))
  exact bodyPost_ret (v := .int .i64 (wrap64 (wrap64 (p * u) - wrap64 (q * z)))) (by simp [results, Try.results18, go_sem, *]) rfl ⟨rfl, (Later.mk_of (by repeat (first | (with_reducible assumption) | (with_reducible exact Below.refl _ _) | (with_reducible refine Later.after ?_ _) | (with_reducible refine Later.newer ?_ _) | (with_reducible refine Below.drew ?_) | (with_reducible refine Below.setCell ?_ (by first | exact Nat.le_refl _ | exact Nat.le_add_right _ _ | omega | (simp [go_sem]; done) | (simp [go_sem]; omega)) _))))⟩


theorem ptCross_c (p q z u : Int) (w : World) :
    Calls Try.prog 18 #[.agg #[.int .i64 p, .int .i64 q], .agg #[.int .i64 z, .int .i64 u]] w fun e w' => e = .returned (.int .i64 (wrap64 (p * u - q * z))) ∧ ∃ x : Later w, w' = x.out := by
  rw [← w64_sub]
  exact ptCross_c0 p q z u w


theorem ptCross_r (p q z u : Int) (w : World) :
    Calls Try.prog 27 #[.agg #[.int .i64 p, .int .i64 q], .agg #[.int .i64 z, .int .i64 u]] w fun e w' => e = .returned (.int .i64 (wrap64 (p * u - q * z))) ∧ ∃ x : Later w, w' = x.out := by
  rw [← w64_sub]
  exact ptCross_r0 p q z u w


set_option maxRecDepth 100000 in
set_option maxHeartbeats 400000 in
theorem ptSq_0 (p q : Int) (w : World) :
    Calls Try.prog 41 #[.agg #[.int .i64 p, .int .i64 q]] w fun e w' => e = .returned (.int .i64 (wrap64 (wrap64 (p * p) + wrap64 (q * q)))) ∧ ∃ x : Later w, w' = x.out := by
  go_enter Try.func41, Try.ntmps41
  go_wp2_with (fail)
  exact bodyPost_ret (v := .int .i64 (wrap64 (wrap64 (p * p) + wrap64 (q * q)))) (by simp [results, Try.results41, go_sem, *]) rfl ⟨rfl, (Later.mk_of (by repeat (first | (with_reducible assumption) | (with_reducible exact Below.refl _ _) | (with_reducible refine Later.after ?_ _) | (with_reducible refine Later.newer ?_ _) | (with_reducible refine Below.drew ?_) | (with_reducible refine Below.setCell ?_ (by first | exact Nat.le_refl _ | exact Nat.le_add_right _ _ | omega | (simp [go_sem]; done) | (simp [go_sem]; omega)) _))))⟩

end Go.Proofs.Ytdlemjecocmbgaa
