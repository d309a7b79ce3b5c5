/-
  The statement of VectorTurns, for every input: its walk, and the row round it.
-/
import Derived.Test.YtdlemjecocmbgaaV4
import Derived.Test.YtdlemjecocmbgaaRow
import Derived.ProofKit
import Derived.OpenShut
namespace Go.Proofs.Ytdlemjecocmbgaa.vectorTurns
open Go.ChangeShapes Go.WideShapes Go.ChangeAt Go.RowKit Go.Joins
set_option linter.unusedVariables false

theorem cells23 : Try.prog.cellsOf 23 = 2 := by kernel_rfl

set_option maxRecDepth 100000 in
set_option maxHeartbeats 600000 in
theorem walk_far1 (p q z u : Int) (w : World)
    (c1 : ∀ w', Calls Try.prog 10 #[.agg #[.int .i64 p, .int .i64 q]] w' fun e w'' => e = .returned (.bool false) ∧ ∃ x : Later w', w'' = x.out) :
    Calls Try.prog 4 #[.agg #[.int .i64 p, .int .i64 q], .agg #[.int .i64 z, .int .i64 u]] w fun e w' => e = .returned (.bool true) ∧ ∃ x : Later w, w' = x.out := by
  have Hc1 := Lib.hid c1; clear c1
  go_enter Try.func4, Try.ntmps4
  go_wp2_with (first | (go_at_call 10; (with_reducible refine (Hc1.out _).mono ?_); rintro e _ ⟨rfl, x, rfl⟩) | (go_at_call 11; (with_reducible refine (shown_4 _).mono ?_); rintro e _ ⟨rfl, x, rfl⟩))
  go_ret
  exact ⟨rfl, (Later.mk_of (by repeat (first | (with_reducible assumption) | (with_reducible exact Below.refl _ _) | (with_reducible refine Later.after ?_ _) | (with_reducible refine Later.newer ?_ _) | (with_reducible refine Below.drew ?_) | (with_reducible refine Below.setCell ?_ (by first | exact Nat.le_refl _ | exact Nat.le_add_right _ _ | omega | (simp [go_sem]; done) | (simp [go_sem]; omega)) _))))⟩

set_option maxRecDepth 100000 in
set_option maxHeartbeats 600000 in
theorem walk_far2 (p q z u : Int) (w : World)
    (c1 : ∀ w', Calls Try.prog 10 #[.agg #[.int .i64 p, .int .i64 q]] w' fun e w'' => e = .returned (.bool true) ∧ ∃ x : Later w', w'' = x.out) (c2 : ∀ w', Calls Try.prog 10 #[.agg #[.int .i64 z, .int .i64 u]] w' fun e w'' => e = .returned (.bool false) ∧ ∃ x : Later w', w'' = x.out) :
    Calls Try.prog 4 #[.agg #[.int .i64 p, .int .i64 q], .agg #[.int .i64 z, .int .i64 u]] w fun e w' => e = .returned (.bool true) ∧ ∃ x : Later w, w' = x.out := by
  have Hc1 := Lib.hid c1; clear c1
  have Hc2 := Lib.hid c2; clear c2
  go_enter Try.func4, Try.ntmps4
  go_wp2_with (first | (go_at_call 10; (with_reducible refine (Hc1.out _).mono ?_); rintro e _ ⟨rfl, x, rfl⟩) | (go_at_call 10; (with_reducible refine (Hc2.out _).mono ?_); rintro e _ ⟨rfl, x, rfl⟩) | (go_at_call 11; (with_reducible refine (shown_4 _).mono ?_); rintro e _ ⟨rfl, x, rfl⟩))
  go_ret
  exact ⟨rfl, (Later.mk_of (by repeat (first | (with_reducible assumption) | (with_reducible exact Below.refl _ _) | (with_reducible refine Later.after ?_ _) | (with_reducible refine Later.newer ?_ _) | (with_reducible refine Below.drew ?_) | (with_reducible refine Below.setCell ?_ (by first | exact Nat.le_refl _ | exact Nat.le_add_right _ _ | omega | (simp [go_sem]; done) | (simp [go_sem]; omega)) _))))⟩

set_option maxRecDepth 100000 in
set_option maxHeartbeats 2000000 in
theorem walk_n (p q z u q' p' S T c c' d n : Int) (w : World)
    (e1 : wrap64 (-c') = c)
    (c1 : ∀ w', Calls Try.prog 10 #[.agg #[.int .i64 p, .int .i64 q]] w' fun e w'' => e = .returned (.bool true) ∧ ∃ x : Later w', w'' = x.out)
    (c2 : ∀ w', Calls Try.prog 10 #[.agg #[.int .i64 z, .int .i64 u]] w' fun e w'' => e = .returned (.bool true) ∧ ∃ x : Later w', w'' = x.out)
    (c3 : ∀ w', Calls Try.prog 15 #[.agg #[.int .i64 p, .int .i64 q]] w' fun e w'' => e = .returned (.agg #[.int .i64 (q'), .int .i64 p]) ∧ ∃ x : Later w', w'' = x.out)
    (c4 : ∀ w', Calls Try.prog 16 #[.agg #[.int .i64 p, .int .i64 q], .agg #[.int .i64 z, .int .i64 u]] w' fun e w'' => e = .returned (.agg #[.int .i64 S, .int .i64 T]) ∧ ∃ x : Later w', w'' = x.out)
    (c5 : ∀ w', Calls Try.prog 17 #[.agg #[.int .i64 S, .int .i64 T], .agg #[.int .i64 z, .int .i64 u]] w' fun e w'' => e = .returned (.agg #[.int .i64 p, .int .i64 q]) ∧ ∃ x : Later w', w'' = x.out)
    (c6 : ∀ w', Calls Try.prog 10 #[.agg #[.int .i64 S, .int .i64 T]] w' fun e w'' => e = .returned (.bool true) ∧ ∃ x : Later w', w'' = x.out)
    (c7 : ∀ w', Calls Try.prog 18 #[.agg #[.int .i64 p, .int .i64 q], .agg #[.int .i64 z, .int .i64 u]] w' fun e w'' => e = .returned (.int .i64 c) ∧ ∃ x : Later w', w'' = x.out)
    (c8 : ∀ w', Calls Try.prog 18 #[.agg #[.int .i64 z, .int .i64 u], .agg #[.int .i64 p, .int .i64 q]] w' fun e w'' => e = .returned (.int .i64 c') ∧ ∃ x : Later w', w'' = x.out)
    (c9 : ∀ w', Calls Try.prog 13 #[.agg #[.int .i64 p, .int .i64 q], .agg #[.int .i64 (q'), .int .i64 p]] w' fun e w'' => e = .returned (.int .i64 0) ∧ ∃ x : Later w', w'' = x.out)
    (c10 : ∀ w', Calls Try.prog 12 #[.agg #[.int .i64 (q'), .int .i64 p]] w' fun e w'' => e = .returned (.int .i64 n) ∧ ∃ x : Later w', w'' = x.out)
    (c11 : ∀ w', Calls Try.prog 12 #[.agg #[.int .i64 p, .int .i64 q]] w' fun e w'' => e = .returned (.int .i64 n) ∧ ∃ x : Later w', w'' = x.out)
    (c12 : ∀ w', Calls Try.prog 13 #[.agg #[.int .i64 (q'), .int .i64 p], .agg #[.int .i64 z, .int .i64 u]] w' fun e w'' => e = .returned (.int .i64 c) ∧ ∃ x : Later w', w'' = x.out)
    (c13 : ∀ w', Calls Try.prog 18 #[.agg #[.int .i64 p, .int .i64 q], .agg #[.int .i64 (q'), .int .i64 p]] w' fun e w'' => e = .returned (.int .i64 d) ∧ ∃ x : Later w', w'' = x.out)
    (c14 : ∀ w', Calls Try.prog 13 #[.agg #[.int .i64 p, .int .i64 q], .agg #[.int .i64 p, .int .i64 q]] w' fun e w'' => e = .returned (.int .i64 d) ∧ ∃ x : Later w', w'' = x.out)
    (c15 : ∀ w', Calls Try.prog 15 #[.agg #[.int .i64 (q'), .int .i64 p]] w' fun e w'' => e = .returned (.agg #[.int .i64 (p'), .int .i64 (q')]) ∧ ∃ x : Later w', w'' = x.out)
    (c16 : ∀ w', Calls Try.prog 14 #[.agg #[.int .i64 p, .int .i64 q]] w' fun e w'' => e = .returned (.agg #[.int .i64 (p'), .int .i64 (q')]) ∧ ∃ x : Later w', w'' = x.out) :
    Calls Try.prog 4 #[.agg #[.int .i64 p, .int .i64 q], .agg #[.int .i64 z, .int .i64 u]] w fun e w' => e = .returned (.bool true) ∧ ∃ x : Later w, w' = x.out := by
  have Hc1 := Lib.hid c1; clear c1
  have Hc2 := Lib.hid c2; clear c2
  have Hc3 := Lib.hid c3; clear c3
  have Hc4 := Lib.hid c4; clear c4
  have Hc5 := Lib.hid c5; clear c5
  have Hc6 := Lib.hid c6; clear c6
  have Hc7 := Lib.hid c7; clear c7
  have Hc8 := Lib.hid c8; clear c8
  have Hc9 := Lib.hid c9; clear c9
  have Hc10 := Lib.hid c10; clear c10
  have Hc11 := Lib.hid c11; clear c11
  have Hc12 := Lib.hid c12; clear c12
  have Hc13 := Lib.hid c13; clear c13
  have Hc14 := Lib.hid c14; clear c14
  have Hc15 := Lib.hid c15; clear c15
  have Hc16 := Lib.hid c16; clear c16
  go_enter Try.func4, Try.ntmps4
  go_wp2_with (first | (go_at_call 10; (with_reducible refine (Hc1.out _).mono ?_); rintro e _ ⟨rfl, x, rfl⟩) | (go_at_call 10; (with_reducible refine (Hc2.out _).mono ?_); rintro e _ ⟨rfl, x, rfl⟩) | (go_at_call 11; (with_reducible refine (shown_4 _).mono ?_); rintro e _ ⟨rfl, x, rfl⟩) | (go_at_call 15; (with_reducible refine (Hc3.out _).mono ?_); rintro e _ ⟨rfl, x, rfl⟩) | (go_at_call 16; (with_reducible refine (Hc4.out _).mono ?_); rintro e _ ⟨rfl, x, rfl⟩))
  refine wp_region_later (by kernel_rfl) (by kernel_rfl) ?_
  repeat (go_big_quiet_step ((first | (go_at_call 10; with_reducible exact Later.call _ (Hc6.out _)) | (go_at_call 17; with_reducible exact Later.call _ (Hc5.out _)))))
  refine wpQuiet_nil ?_
  intro x
  go_wp2_with (fail)
  refine wp_region_later (by kernel_rfl) (by kernel_rfl) ?_
  repeat (go_big_quiet_step ((first | (go_at_call 18; with_reducible exact Later.call _ (Hc7.out _)) | (go_at_call 18; with_reducible exact Later.call _ (Hc8.out _)) | (go_at_call 13; with_reducible exact Later.call _ (Hc9.out _)) | (go_at_call 12; with_reducible exact Later.call _ (Hc10.out _)) | (go_at_call 12; with_reducible exact Later.call _ (Hc11.out _)) | (go_at_call 13; with_reducible exact Later.call _ (Hc12.out _)) | (go_at_call 18; with_reducible exact Later.call _ (Hc13.out _)) | (go_at_call 13; with_reducible exact Later.call _ (Hc14.out _)) | (go_at_call 15; with_reducible exact Later.call _ (Hc3.out _)) | (go_at_call 15; with_reducible exact Later.call _ (Hc15.out _)) | (go_at_call 14; with_reducible exact Later.call _ (Hc16.out _)))))
  refine wpQuiet_nil ?_
  intro x
  go_wp2
  go_ret
  exact ⟨rfl, (Later.mk_of (by repeat (first | (with_reducible assumption) | (with_reducible exact Below.refl _ _) | (with_reducible refine Later.after ?_ _) | (with_reducible refine Later.newer ?_ _) | (with_reducible refine Below.drew ?_) | (with_reducible refine Below.setCell ?_ (by first | exact Nat.le_refl _ | exact Nat.le_add_right _ _ | omega | (simp [go_sem]; done) | (simp [go_sem]; omega)) _))))⟩

set_option maxRecDepth 100000 in
set_option maxHeartbeats 2000000 in
theorem walk_f (p q z u q' p' S T c c' d n : Int) (w : World)
    (e1 : wrap64 (-c') = c)
    (c1 : ∀ w', Calls Try.prog 10 #[.agg #[.int .i64 p, .int .i64 q]] w' fun e w'' => e = .returned (.bool true) ∧ ∃ x : Later w', w'' = x.out)
    (c2 : ∀ w', Calls Try.prog 10 #[.agg #[.int .i64 z, .int .i64 u]] w' fun e w'' => e = .returned (.bool true) ∧ ∃ x : Later w', w'' = x.out)
    (c3 : ∀ w', Calls Try.prog 15 #[.agg #[.int .i64 p, .int .i64 q]] w' fun e w'' => e = .returned (.agg #[.int .i64 (q'), .int .i64 p]) ∧ ∃ x : Later w', w'' = x.out)
    (c4 : ∀ w', Calls Try.prog 16 #[.agg #[.int .i64 p, .int .i64 q], .agg #[.int .i64 z, .int .i64 u]] w' fun e w'' => e = .returned (.agg #[.int .i64 S, .int .i64 T]) ∧ ∃ x : Later w', w'' = x.out)
    
    (c6 : ∀ w', Calls Try.prog 10 #[.agg #[.int .i64 S, .int .i64 T]] w' fun e w'' => e = .returned (.bool false) ∧ ∃ x : Later w', w'' = x.out)
    (c7 : ∀ w', Calls Try.prog 18 #[.agg #[.int .i64 p, .int .i64 q], .agg #[.int .i64 z, .int .i64 u]] w' fun e w'' => e = .returned (.int .i64 c) ∧ ∃ x : Later w', w'' = x.out)
    (c8 : ∀ w', Calls Try.prog 18 #[.agg #[.int .i64 z, .int .i64 u], .agg #[.int .i64 p, .int .i64 q]] w' fun e w'' => e = .returned (.int .i64 c') ∧ ∃ x : Later w', w'' = x.out)
    (c9 : ∀ w', Calls Try.prog 13 #[.agg #[.int .i64 p, .int .i64 q], .agg #[.int .i64 (q'), .int .i64 p]] w' fun e w'' => e = .returned (.int .i64 0) ∧ ∃ x : Later w', w'' = x.out)
    (c10 : ∀ w', Calls Try.prog 12 #[.agg #[.int .i64 (q'), .int .i64 p]] w' fun e w'' => e = .returned (.int .i64 n) ∧ ∃ x : Later w', w'' = x.out)
    (c11 : ∀ w', Calls Try.prog 12 #[.agg #[.int .i64 p, .int .i64 q]] w' fun e w'' => e = .returned (.int .i64 n) ∧ ∃ x : Later w', w'' = x.out)
    (c12 : ∀ w', Calls Try.prog 13 #[.agg #[.int .i64 (q'), .int .i64 p], .agg #[.int .i64 z, .int .i64 u]] w' fun e w'' => e = .returned (.int .i64 c) ∧ ∃ x : Later w', w'' = x.out)
    (c13 : ∀ w', Calls Try.prog 18 #[.agg #[.int .i64 p, .int .i64 q], .agg #[.int .i64 (q'), .int .i64 p]] w' fun e w'' => e = .returned (.int .i64 d) ∧ ∃ x : Later w', w'' = x.out)
    (c14 : ∀ w', Calls Try.prog 13 #[.agg #[.int .i64 p, .int .i64 q], .agg #[.int .i64 p, .int .i64 q]] w' fun e w'' => e = .returned (.int .i64 d) ∧ ∃ x : Later w', w'' = x.out)
    (c15 : ∀ w', Calls Try.prog 15 #[.agg #[.int .i64 (q'), .int .i64 p]] w' fun e w'' => e = .returned (.agg #[.int .i64 (p'), .int .i64 (q')]) ∧ ∃ x : Later w', w'' = x.out)
    (c16 : ∀ w', Calls Try.prog 14 #[.agg #[.int .i64 p, .int .i64 q]] w' fun e w'' => e = .returned (.agg #[.int .i64 (p'), .int .i64 (q')]) ∧ ∃ x : Later w', w'' = x.out) :
    Calls Try.prog 4 #[.agg #[.int .i64 p, .int .i64 q], .agg #[.int .i64 z, .int .i64 u]] w fun e w' => e = .returned (.bool true) ∧ ∃ x : Later w, w' = x.out := by
  have Hc1 := Lib.hid c1; clear c1
  have Hc2 := Lib.hid c2; clear c2
  have Hc3 := Lib.hid c3; clear c3
  have Hc4 := Lib.hid c4; clear c4
  have Hc6 := Lib.hid c6; clear c6
  have Hc7 := Lib.hid c7; clear c7
  have Hc8 := Lib.hid c8; clear c8
  have Hc9 := Lib.hid c9; clear c9
  have Hc10 := Lib.hid c10; clear c10
  have Hc11 := Lib.hid c11; clear c11
  have Hc12 := Lib.hid c12; clear c12
  have Hc13 := Lib.hid c13; clear c13
  have Hc14 := Lib.hid c14; clear c14
  have Hc15 := Lib.hid c15; clear c15
  have Hc16 := Lib.hid c16; clear c16
  go_enter Try.func4, Try.ntmps4
  go_wp2_with (first | (go_at_call 10; (with_reducible refine (Hc1.out _).mono ?_); rintro e _ ⟨rfl, x, rfl⟩) | (go_at_call 10; (with_reducible refine (Hc2.out _).mono ?_); rintro e _ ⟨rfl, x, rfl⟩) | (go_at_call 11; (with_reducible refine (shown_4 _).mono ?_); rintro e _ ⟨rfl, x, rfl⟩) | (go_at_call 15; (with_reducible refine (Hc3.out _).mono ?_); rintro e _ ⟨rfl, x, rfl⟩) | (go_at_call 16; (with_reducible refine (Hc4.out _).mono ?_); rintro e _ ⟨rfl, x, rfl⟩))
  refine wp_region_later (by kernel_rfl) (by kernel_rfl) ?_
  repeat (go_big_quiet_step ((first | (go_at_call 10; with_reducible exact Later.call _ (Hc6.out _)))))
  refine wpQuiet_nil ?_
  intro x
  go_wp2_with (fail)
  refine wp_region_later (by kernel_rfl) (by kernel_rfl) ?_
  repeat (go_big_quiet_step ((first | (go_at_call 18; with_reducible exact Later.call _ (Hc7.out _)) | (go_at_call 18; with_reducible exact Later.call _ (Hc8.out _)) | (go_at_call 13; with_reducible exact Later.call _ (Hc9.out _)) | (go_at_call 12; with_reducible exact Later.call _ (Hc10.out _)) | (go_at_call 12; with_reducible exact Later.call _ (Hc11.out _)) | (go_at_call 13; with_reducible exact Later.call _ (Hc12.out _)) | (go_at_call 18; with_reducible exact Later.call _ (Hc13.out _)) | (go_at_call 13; with_reducible exact Later.call _ (Hc14.out _)) | (go_at_call 15; with_reducible exact Later.call _ (Hc3.out _)) | (go_at_call 15; with_reducible exact Later.call _ (Hc15.out _)) | (go_at_call 14; with_reducible exact Later.call _ (Hc16.out _)))))
  refine wpQuiet_nil ?_
  intro x
  go_wp2
  go_ret
  exact ⟨rfl, (Later.mk_of (by repeat (first | (with_reducible assumption) | (with_reducible exact Below.refl _ _) | (with_reducible refine Later.after ?_ _) | (with_reducible refine Later.newer ?_ _) | (with_reducible refine Below.drew ?_) | (with_reducible refine Below.setCell ?_ (by first | exact Nat.le_refl _ | exact Nat.le_add_right _ _ | omega | (simp [go_sem]; done) | (simp [go_sem]; omega)) _))))⟩

theorem near_mul (p q : Int) (h1 : -1073741824 ≤ p) (h2 : p ≤ 1073741824) (h3 : -1073741824 ≤ q) (h4 : q ≤ 1073741824) : -1152921504606846976 ≤ p * q ∧ p * q ≤ 1152921504606846976 := by
  have := Int.mul_le_mul_of_natAbs_le (x := p) (y := q) (s := 1073741824) (t := 1073741824) (by omega) (by omega)
  have := Int.mul_le_mul_of_natAbs_le (x := -p) (y := q) (s := 1073741824) (t := 1073741824) (by omega) (by omega)
  rw [Int.neg_mul] at this
  omega
theorem walk (a0 b0 a1 b1 : Int) (w0 : (Lit.int .i64 a0).wf = true) (u0 : (Lit.int .i64 b0).wf = true) (w1 : (Lit.int .i64 a1).wf = true) (u1 : (Lit.int .i64 b1).wf = true) (w : World) :
    Calls Try.prog 4 #[.agg #[.int .i64 a0, .int .i64 b0], .agg #[.int .i64 a1, .int .i64 b1]] w fun e w' => e = .returned (.bool true) ∧ ∃ x : Later w, w' = x.out := by
  have hn := fun v => ptNear_r a0 b0 v
  have hm := fun v => ptNear_r a1 b1 v
  cases h : (btw a0 && btw b0)
  · rw [h] at hn
    exact walk_far1 a0 b0 a1 b1 w hn
  rw [h] at hn
  cases h' : (btw a1 && btw b1)
  · rw [h'] at hm
    exact walk_far2 a0 b0 a1 b1 w hn hm
  rw [h'] at hm
  simp only [Bool.and_eq_true, btw_iff] at h h'
  obtain ⟨⟨h1, h2⟩, h3, h4⟩ := h
  obtain ⟨⟨k1, k2⟩, k3, k4⟩ := h'
  have s1 := near_sq a0 h1 h2
  have s2 := near_sq b0 h3 h4
  have m1 := near_mul a0 b1 h1 h2 k3 k4
  have m2 := near_mul b0 a1 h3 h4 k1 k2
  have m3 := near_mul a0 b0 h1 h2 h3 h4
  have i0 := isq_is (a0 * a0 + b0 * b0) (by omega)
  have i1 : IsRoot (-b0 * -b0 + a0 * a0) (isq (a0 * a0 + b0 * b0)) := by rw [Int.neg_mul_neg, Int.add_comm]; exact i0
  have c3 := fun v => ptLeft_c a0 b0 v
  have c15 := fun v => ptLeft_c (-b0) a0 v
  have c16 := fun v => ptNeg_c a0 b0 v
  have c4 := fun v => ptAdd_c a0 b0 a1 b1 v
  have c5 := fun v => ptSub_c (a0 + a1) (b0 + b1) a1 b1 v
  have c7 := fun v => ptCross_c a0 b0 a1 b1 v
  have c8 := fun v => ptCross_c a1 b1 a0 b0 v
  have c9 := fun v => ptDot_c a0 b0 (-b0) a0 v
  have c12 := fun v => ptDot_c (-b0) a0 a1 b1 v
  have c13 := fun v => ptCross_c a0 b0 (-b0) a0 v
  have c14 := fun v => ptDot_c a0 b0 a0 b0 v
  have f1 : wrap64 (-a0) = -a0 := w64_in _ (by unfold R64; omega)
  have f2 : wrap64 (-b0) = -b0 := w64_in _ (by unfold R64; omega)
  rw [f2] at c3
  rw [f1] at c15
  rw [f1, f2] at c16
  rw [w64_in (a0 + a1) (by unfold R64; omega), w64_in (b0 + b1) (by unfold R64; omega)] at c4
  rw [show a0 + a1 - a1 = a0 by omega, show b0 + b1 - b1 = b0 by omega, w64_in a0 (by unfold R64; omega), w64_in b0 (by unfold R64; omega)] at c5
  rw [w64_in _ (by unfold R64; omega)] at c7
  rw [Int.mul_comm a1 b0, Int.mul_comm b1 a0, w64_in _ (by unfold R64; omega)] at c8
  rw [Int.mul_neg, Int.mul_comm b0 a0, show -(a0 * b0) + a0 * b0 = 0 by omega, show wrap64 0 = 0 by unfold wrap64; omega] at c9
  rw [Int.neg_mul, show -(b0 * a1) + a0 * b1 = a0 * b1 - b0 * a1 by omega, w64_in _ (by unfold R64; omega)] at c12
  rw [Int.mul_neg, show a0 * a0 - -(b0 * b0) = a0 * a0 + b0 * b0 by omega, w64_in _ (by unfold R64; omega)] at c13
  rw [w64_in _ (by unfold R64; omega)] at c14
  have c6 := fun v => ptNear_r (a0 + a1) (b0 + b1) v
  have e1 : wrap64 (-(b0 * a1 - a0 * b1)) = a0 * b1 - b0 * a1 := by rw [w64_in _ (by unfold R64; omega)]; omega
  have c10 := fun v => ptLen_c (-b0) a0 _ v (by omega) (by omega) (by omega) (by omega) i1
  have c11 := fun v => ptLen_c a0 b0 _ v h1 h2 h3 h4 i0
  cases g : (btw (a0 + a1) && btw (b0 + b1))
  · rw [g] at c6
    exact walk_f a0 b0 a1 b1 _ _ _ _ _ _ _ _ w e1 hn hm c3 c4 c6 c7 c8 c9 c10 c11 c12 c13 c14 c15 c16
  · rw [g] at c6
    exact walk_n a0 b0 a1 b1 _ _ _ _ _ _ _ _ w e1 hn hm c3 c4 c5 c6 c7 c8 c9 c10 c11 c12 c13 c14 c15 c16


set_option maxRecDepth 100000 in
theorem lifted (os : Os) (started : os.Started) (H : Type) (enc : TypeId × Value → H) :
    ReturnsInHanded {} Try.checked os 4 .any (Rows.vectorTurnsSpec.pre6 enc Try.prog Try.f4 Rows.vectorTurnsRow.domain false) (Rows.vectorTurnsSpec.post enc Try.prog Try.f4 false true false false) := by
  refine returnsInHanded_of_change (C := Try.checked) own started (by kernel_rfl) Try.func4
    (ChangeSpec.witness6 (enc := enc) (C := Try.checked) false ⟨#[], #[.agg #[.int .i64 0, .int .i64 0], .agg #[.int .i64 0, .int .i64 0]], []⟩ 8 (by kernel_rfl) (by kernel_rfl) (by kernel_rfl) (by kernel_rfl)) ?_
  intro W base args ds gs before hval0 hW hcnd _
  have hval : ∀ (j : Nat) t v, Try.f4.params[j]? = some t → args[j]? = some v → Value.okWide Try.prog W .any base t v := hval0
  have hW' := hW
  obtain ⟨p, q, hA0, hV, rfl, hfz, hnd⟩ := hW
  have hA : DataW.TrodAll enc Try.prog W 0 (fun _ => true) true Try.f4.params.toList args.toList ds p := hA0
  rw [Try.params4] at hA hval
  obtain ⟨v0, vs0, d0, ds0, p0, q0, hargs, rfl, rfl, h0, r0⟩ := trodAll_cons hA
  obtain ⟨v1, vs1, d1, ds1, p1, q1, rfl, rfl, rfl, h1, r1⟩ := trodAll_cons r0
  obtain ⟨rfl, rfl, rfl⟩ := trodAll_nil r1
  obtain rfl : args = #[v0, v1] := by cases args; simp_all
  obtain ⟨rfl, rfl⟩ := trodVars_none hV
  obtain ⟨a0, b0, rfl, rfl, rfl, w0, u0⟩ := open_two Try.underlying23 (by kernel_rfl) cells23 Try.underlying3 Try.underlying3 (hval 0 23 v0 rfl rfl) h0
  obtain ⟨a1, b1, rfl, rfl, rfl, w1, u1⟩ := open_two Try.underlying23 (by kernel_rfl) cells23 Try.underlying3 Try.underlying3 (hval 1 23 v1 rfl rfl) h1
  clear hA0 hval0
  simp only [List.append_nil] at hW'
  refine (walk a0 b0 a1 b1 w0 u0 w1 u1 W).mono fun e W' ⟨he, hg⟩ => ?_
  subst he
  exact ⟨_, rfl, post_later (pa := []) hW' (fun _ _ _ => (trodAll_cons_mk (shut_bool Try.underlying4 _) trodAll_mk0)) (fun sp _ => (trodAll_cons_mk (shut_two Try.underlying23 (by kernel_rfl) cells23 Try.underlying3 Try.underlying3 w0 u0) (trodAll_cons_mk (shut_two Try.underlying23 (by kernel_rfl) cells23 Try.underlying3 Try.underlying3 w1 u1) trodAll_mk0))) (fun _ _ => rfl) rfl
    hg (ok_one (by kernel_rfl) rfl (okWide_bool_mk Try.underlying4 _))⟩

theorem over : Rows.vectorTurnsRow.holds Try.pinned (OpenSpec.ofChange Rows.vectorTurnsSpec) :=
  OpenClaim.holds_of_wide 4 Try.f4 rfl rfl rfl rfl rfl rfl rfl ⟨rfl, rfl, rfl, rfl, rfl⟩ rfl rfl rfl rfl rfl (by kernel_rfl) Try.func4 (by kernel_rfl)
    (of_decide_eq_true (by kernel_rfl)) (by unfold Func.isWrapper; first | (rw [if_pos (by decide +kernel)]; kernel_rfl) | (rw [if_neg (by decide +kernel)]; exact ⟨rfl, rfl⟩))
    (fun os started H enc _ => lifted os started H enc)

theorem proved : Rows.VectorTurnsSaid :=
  over
#print axioms proved
end Go.Proofs.Ytdlemjecocmbgaa.vectorTurns

