/-
  The statement of VectorTells, for every input: its walk, and the row round it.
-/
import Derived.Test.YtdlemjecocmbgaaV6
import Derived.Test.YtdlemjecocmbgaaRow
import Derived.ProofKit
import Derived.OpenShut
namespace Go.Proofs.Ytdlemjecocmbgaa.vectorTells
open Go.ChangeShapes Go.WideShapes Go.ChangeAt Go.RowKit Go.Joins
set_option linter.unusedVariables false

theorem cells23 : Try.prog.cellsOf 23 = 2 := by kernel_rfl

set_option maxRecDepth 100000 in
set_option maxHeartbeats 600000 in
theorem walk_far1 (p q z u k n : Int) (w : World)
    (c0 : ∀ w', Calls Try.prog 20 #[.agg #[.int .i64 p, .int .i64 q]] w' fun e w'' => e = .returned (.bool false) ∧ ∃ x : Later w', w'' = x.out) (c1 : ∀ w', Calls Try.prog 10 #[.agg #[.int .i64 p, .int .i64 q]] w' fun e w'' => e = .returned (.bool false) ∧ ∃ x : Later w', w'' = x.out) :
    Calls Try.prog 7 #[.agg #[.int .i64 p, .int .i64 q], .agg #[.int .i64 z, .int .i64 u], .int .i64 k, .int .i64 n] w fun e w' => e = .returned (.bool true) ∧ ∃ x : Later w, w' = x.out := by
  have Hc0 := Lib.hid c0; clear c0
  have Hc1 := Lib.hid c1; clear c1
  go_enter Try.func7, Try.ntmps7
  go_wp2_with (fail)
  refine wp_region_later (by kernel_rfl) (by kernel_rfl) ?_
  repeat (go_big_quiet_step ((first | (go_at_call 20; with_reducible exact Later.call _ (Hc0.out _)) | (go_at_call 10; with_reducible exact Later.call _ (Hc1.out _)) | (go_at_call 11; with_reducible exact Later.call _ (shown_4 _)))))
  refine wpQuiet_nil ?_
  intro x
  go_wp2_with (first | (go_at_call 20; (with_reducible refine (Hc0.out _).mono ?_); rintro e _ ⟨rfl, x, rfl⟩) | (go_at_call 10; (with_reducible refine (Hc1.out _).mono ?_); rintro e _ ⟨rfl, x, rfl⟩) | (go_at_call 11; (with_reducible refine (shown_4 _).mono ?_); rintro e _ ⟨rfl, x, rfl⟩))
  go_ret
  exact ⟨rfl, (Later.mk_of (by repeat (first | (with_reducible assumption) | (with_reducible exact Below.refl _ _) | (with_reducible refine Later.after ?_ _) | (with_reducible refine Later.newer ?_ _) | (with_reducible refine Below.drew ?_) | (with_reducible refine Below.setCell ?_ (by first | exact Nat.le_refl _ | exact Nat.le_add_right _ _ | omega | (simp [go_sem]; done) | (simp [go_sem]; omega)) _))))⟩

set_option maxRecDepth 100000 in
set_option maxHeartbeats 600000 in
theorem walk_far2 (p q z u k n : Int) (w : World)
    (c0 : ∀ w', Calls Try.prog 20 #[.agg #[.int .i64 p, .int .i64 q]] w' fun e w'' => e = .returned (.bool true) ∧ ∃ x : Later w', w'' = x.out) (c1 : ∀ w', Calls Try.prog 10 #[.agg #[.int .i64 p, .int .i64 q]] w' fun e w'' => e = .returned (.bool true) ∧ ∃ x : Later w', w'' = x.out) (c2 : ∀ w', Calls Try.prog 10 #[.agg #[.int .i64 z, .int .i64 u]] w' fun e w'' => e = .returned (.bool false) ∧ ∃ x : Later w', w'' = x.out) :
    Calls Try.prog 7 #[.agg #[.int .i64 p, .int .i64 q], .agg #[.int .i64 z, .int .i64 u], .int .i64 k, .int .i64 n] w fun e w' => e = .returned (.bool true) ∧ ∃ x : Later w, w' = x.out := by
  have Hc0 := Lib.hid c0; clear c0
  have Hc1 := Lib.hid c1; clear c1
  have Hc2 := Lib.hid c2; clear c2
  go_enter Try.func7, Try.ntmps7
  go_wp2_with (fail)
  refine wp_region_later (by kernel_rfl) (by kernel_rfl) ?_
  repeat (go_big_quiet_step ((first | (go_at_call 20; with_reducible exact Later.call _ (Hc0.out _)) | (go_at_call 10; with_reducible exact Later.call _ (Hc1.out _)) | (go_at_call 11; with_reducible exact Later.call _ (shown_4 _)))))
  refine wpQuiet_nil ?_
  intro x
  go_wp2_with (first | (go_at_call 20; (with_reducible refine (Hc0.out _).mono ?_); rintro e _ ⟨rfl, x, rfl⟩) | (go_at_call 10; (with_reducible refine (Hc1.out _).mono ?_); rintro e _ ⟨rfl, x, rfl⟩) | (go_at_call 10; (with_reducible refine (Hc2.out _).mono ?_); rintro e _ ⟨rfl, x, rfl⟩) | (go_at_call 11; (with_reducible refine (shown_4 _).mono ?_); rintro e _ ⟨rfl, x, rfl⟩))
  go_ret
  exact ⟨rfl, (Later.mk_of (by repeat (first | (with_reducible assumption) | (with_reducible exact Below.refl _ _) | (with_reducible refine Later.after ?_ _) | (with_reducible refine Later.newer ?_ _) | (with_reducible refine Below.drew ?_) | (with_reducible refine Below.setCell ?_ (by first | exact Nat.le_refl _ | exact Nat.le_add_right _ _ | omega | (simp [go_sem]; done) | (simp [go_sem]; omega)) _))))⟩

set_option maxRecDepth 100000 in
set_option maxHeartbeats 600000 in
theorem walk_far3 (p q z u k n : Int) (w : World)
    (c0 : ∀ w', Calls Try.prog 20 #[.agg #[.int .i64 p, .int .i64 q]] w' fun e w'' => e = .returned (.bool true) ∧ ∃ x : Later w', w'' = x.out) (c1 : ∀ w', Calls Try.prog 10 #[.agg #[.int .i64 p, .int .i64 q]] w' fun e w'' => e = .returned (.bool true) ∧ ∃ x : Later w', w'' = x.out) (c2 : ∀ w', Calls Try.prog 10 #[.agg #[.int .i64 z, .int .i64 u]] w' fun e w'' => e = .returned (.bool true) ∧ ∃ x : Later w', w'' = x.out) (c3 : ∀ w', Calls Try.prog 21 #[.int .i64 k] w' fun e w'' => e = .returned (.bool true) ∧ ∃ x : Later w', w'' = x.out) :
    Calls Try.prog 7 #[.agg #[.int .i64 p, .int .i64 q], .agg #[.int .i64 z, .int .i64 u], .int .i64 k, .int .i64 n] w fun e w' => e = .returned (.bool true) ∧ ∃ x : Later w, w' = x.out := by
  have Hc0 := Lib.hid c0; clear c0
  have Hc1 := Lib.hid c1; clear c1
  have Hc2 := Lib.hid c2; clear c2
  have Hc3 := Lib.hid c3; clear c3
  go_enter Try.func7, Try.ntmps7
  go_wp2_with (fail)
  refine wp_region_later (by kernel_rfl) (by kernel_rfl) ?_
  repeat (go_big_quiet_step ((first | (go_at_call 20; with_reducible exact Later.call _ (Hc0.out _)) | (go_at_call 10; with_reducible exact Later.call _ (Hc1.out _)) | (go_at_call 11; with_reducible exact Later.call _ (shown_4 _)))))
  refine wpQuiet_nil ?_
  intro x
  go_wp2_with (first | (go_at_call 20; (with_reducible refine (Hc0.out _).mono ?_); rintro e _ ⟨rfl, x, rfl⟩) | (go_at_call 10; (with_reducible refine (Hc1.out _).mono ?_); rintro e _ ⟨rfl, x, rfl⟩) | (go_at_call 10; (with_reducible refine (Hc2.out _).mono ?_); rintro e _ ⟨rfl, x, rfl⟩) | (go_at_call 21; (with_reducible refine (Hc3.out _).mono ?_); rintro e _ ⟨rfl, x, rfl⟩) | (go_at_call 11; (with_reducible refine (shown_4 _).mono ?_); rintro e _ ⟨rfl, x, rfl⟩))
  go_ret
  exact ⟨rfl, (Later.mk_of (by repeat (first | (with_reducible assumption) | (with_reducible exact Below.refl _ _) | (with_reducible refine Later.after ?_ _) | (with_reducible refine Later.newer ?_ _) | (with_reducible refine Below.drew ?_) | (with_reducible refine Below.setCell ?_ (by first | exact Nat.le_refl _ | exact Nat.le_add_right _ _ | omega | (simp [go_sem]; done) | (simp [go_sem]; omega)) _))))⟩

set_option maxRecDepth 100000 in
set_option maxHeartbeats 600000 in
theorem walk_far4 (p q z u k n : Int) (w : World)
    (c0 : ∀ w', Calls Try.prog 20 #[.agg #[.int .i64 p, .int .i64 q]] w' fun e w'' => e = .returned (.bool true) ∧ ∃ x : Later w', w'' = x.out) (c1 : ∀ w', Calls Try.prog 10 #[.agg #[.int .i64 p, .int .i64 q]] w' fun e w'' => e = .returned (.bool true) ∧ ∃ x : Later w', w'' = x.out) (c2 : ∀ w', Calls Try.prog 10 #[.agg #[.int .i64 z, .int .i64 u]] w' fun e w'' => e = .returned (.bool true) ∧ ∃ x : Later w', w'' = x.out) (c3 : ∀ w', Calls Try.prog 21 #[.int .i64 k] w' fun e w'' => e = .returned (.bool false) ∧ ∃ x : Later w', w'' = x.out) (c4 : ∀ w', Calls Try.prog 21 #[.int .i64 n] w' fun e w'' => e = .returned (.bool true) ∧ ∃ x : Later w', w'' = x.out) :
    Calls Try.prog 7 #[.agg #[.int .i64 p, .int .i64 q], .agg #[.int .i64 z, .int .i64 u], .int .i64 k, .int .i64 n] w fun e w' => e = .returned (.bool true) ∧ ∃ x : Later w, w' = x.out := by
  have Hc0 := Lib.hid c0; clear c0
  have Hc1 := Lib.hid c1; clear c1
  have Hc2 := Lib.hid c2; clear c2
  have Hc3 := Lib.hid c3; clear c3
  have Hc4 := Lib.hid c4; clear c4
  go_enter Try.func7, Try.ntmps7
  go_wp2_with (fail)
  refine wp_region_later (by kernel_rfl) (by kernel_rfl) ?_
  repeat (go_big_quiet_step ((first | (go_at_call 20; with_reducible exact Later.call _ (Hc0.out _)) | (go_at_call 10; with_reducible exact Later.call _ (Hc1.out _)) | (go_at_call 11; with_reducible exact Later.call _ (shown_4 _)))))
  refine wpQuiet_nil ?_
  intro x
  go_wp2_with (first | (go_at_call 20; (with_reducible refine (Hc0.out _).mono ?_); rintro e _ ⟨rfl, x, rfl⟩) | (go_at_call 10; (with_reducible refine (Hc1.out _).mono ?_); rintro e _ ⟨rfl, x, rfl⟩) | (go_at_call 10; (with_reducible refine (Hc2.out _).mono ?_); rintro e _ ⟨rfl, x, rfl⟩) | (go_at_call 21; (with_reducible refine (Hc3.out _).mono ?_); rintro e _ ⟨rfl, x, rfl⟩) | (go_at_call 21; (with_reducible refine (Hc4.out _).mono ?_); rintro e _ ⟨rfl, x, rfl⟩) | (go_at_call 11; (with_reducible refine (shown_4 _).mono ?_); rintro e _ ⟨rfl, x, rfl⟩))
  go_ret
  exact ⟨rfl, (Later.mk_of (by repeat (first | (with_reducible assumption) | (with_reducible exact Below.refl _ _) | (with_reducible refine Later.after ?_ _) | (with_reducible refine Later.newer ?_ _) | (with_reducible refine Below.drew ?_) | (with_reducible refine Below.setCell ?_ (by first | exact Nat.le_refl _ | exact Nat.le_add_right _ _ | omega | (simp [go_sem]; done) | (simp [go_sem]; omega)) _))))⟩

set_option maxRecDepth 100000 in
set_option maxHeartbeats 4000000 in
theorem walk_at (p q z u k n A1 A2 S1 S2 G1 G2 L1 L2 D C r M1 M2 W1 W2 : Int) (w : World)
    (c0 : ∀ w', Calls Try.prog 20 #[.agg #[.int .i64 p, .int .i64 q]] w' fun e w'' => e = .returned (.bool true) ∧ ∃ x : Later w', w'' = x.out) (c1 : ∀ w', Calls Try.prog 10 #[.agg #[.int .i64 p, .int .i64 q]] w' fun e w'' => e = .returned (.bool true) ∧ ∃ x : Later w', w'' = x.out) (c2 : ∀ w', Calls Try.prog 10 #[.agg #[.int .i64 z, .int .i64 u]] w' fun e w'' => e = .returned (.bool true) ∧ ∃ x : Later w', w'' = x.out) (c3 : ∀ w', Calls Try.prog 21 #[.int .i64 k] w' fun e w'' => e = .returned (.bool false) ∧ ∃ x : Later w', w'' = x.out) (c4 : ∀ w', Calls Try.prog 21 #[.int .i64 n] w' fun e w'' => e = .returned (.bool false) ∧ ∃ x : Later w', w'' = x.out)
        (vAdd : ∀ w', Calls Try.prog 16 #[.agg #[.int .i64 p, .int .i64 q], .agg #[.int .i64 z, .int .i64 u]] w' fun e w'' => e = .returned (.agg #[.int .i64 A1, .int .i64 A2]) ∧ ∃ x : Later w', w'' = x.out)
    (rAdd : ∀ w', Calls Try.prog 22 #[.agg #[.int .i64 p, .int .i64 q], .agg #[.int .i64 z, .int .i64 u]] w' fun e w'' => e = .returned (.agg #[.int .i64 A1, .int .i64 A2]) ∧ ∃ x : Later w', w'' = x.out)
    (vSub : ∀ w', Calls Try.prog 17 #[.agg #[.int .i64 p, .int .i64 q], .agg #[.int .i64 z, .int .i64 u]] w' fun e w'' => e = .returned (.agg #[.int .i64 S1, .int .i64 S2]) ∧ ∃ x : Later w', w'' = x.out)
    (rSub : ∀ w', Calls Try.prog 23 #[.agg #[.int .i64 p, .int .i64 q], .agg #[.int .i64 z, .int .i64 u]] w' fun e w'' => e = .returned (.agg #[.int .i64 S1, .int .i64 S2]) ∧ ∃ x : Later w', w'' = x.out)
    (vNeg : ∀ w', Calls Try.prog 14 #[.agg #[.int .i64 p, .int .i64 q]] w' fun e w'' => e = .returned (.agg #[.int .i64 G1, .int .i64 G2]) ∧ ∃ x : Later w', w'' = x.out)
    (rNeg : ∀ w', Calls Try.prog 24 #[.agg #[.int .i64 p, .int .i64 q]] w' fun e w'' => e = .returned (.agg #[.int .i64 G1, .int .i64 G2]) ∧ ∃ x : Later w', w'' = x.out)
    (vLeft : ∀ w', Calls Try.prog 15 #[.agg #[.int .i64 p, .int .i64 q]] w' fun e w'' => e = .returned (.agg #[.int .i64 L1, .int .i64 L2]) ∧ ∃ x : Later w', w'' = x.out)
    (rLeft : ∀ w', Calls Try.prog 25 #[.agg #[.int .i64 p, .int .i64 q]] w' fun e w'' => e = .returned (.agg #[.int .i64 L1, .int .i64 L2]) ∧ ∃ x : Later w', w'' = x.out)
    (vDot : ∀ w', Calls Try.prog 13 #[.agg #[.int .i64 p, .int .i64 q], .agg #[.int .i64 z, .int .i64 u]] w' fun e w'' => e = .returned (.int .i64 D) ∧ ∃ x : Later w', w'' = x.out)
    (rDot : ∀ w', Calls Try.prog 26 #[.agg #[.int .i64 p, .int .i64 q], .agg #[.int .i64 z, .int .i64 u]] w' fun e w'' => e = .returned (.int .i64 D) ∧ ∃ x : Later w', w'' = x.out)
    (vCross : ∀ w', Calls Try.prog 18 #[.agg #[.int .i64 p, .int .i64 q], .agg #[.int .i64 z, .int .i64 u]] w' fun e w'' => e = .returned (.int .i64 C) ∧ ∃ x : Later w', w'' = x.out)
    (rCross : ∀ w', Calls Try.prog 27 #[.agg #[.int .i64 p, .int .i64 q], .agg #[.int .i64 z, .int .i64 u]] w' fun e w'' => e = .returned (.int .i64 C) ∧ ∃ x : Later w', w'' = x.out)
    (vLen : ∀ w', Calls Try.prog 12 #[.agg #[.int .i64 p, .int .i64 q]] w' fun e w'' => e = .returned (.int .i64 r) ∧ ∃ x : Later w', w'' = x.out)
    (rLen : ∀ w', Calls Try.prog 28 #[.agg #[.int .i64 p, .int .i64 q]] w' fun e w'' => e = .returned (.int .i64 r) ∧ ∃ x : Later w', w'' = x.out)
    (vNorm : ∀ w', Calls Try.prog 29 #[.agg #[.int .i64 p, .int .i64 q], .int .i64 k] w' fun e w'' => e = .returned (.agg #[.int .i64 M1, .int .i64 M2]) ∧ ∃ x : Later w', w'' = x.out)
    (rNorm : ∀ w', Calls Try.prog 30 #[.agg #[.int .i64 p, .int .i64 q], .int .i64 k] w' fun e w'' => e = .returned (.agg #[.int .i64 M1, .int .i64 M2]) ∧ ∃ x : Later w', w'' = x.out)
    (vAlong : ∀ w', Calls Try.prog 19 #[.agg #[.int .i64 p, .int .i64 q], .agg #[.int .i64 z, .int .i64 u], .int .i64 k, .int .i64 n] w' fun e w'' => e = .returned (.agg #[.int .i64 W1, .int .i64 W2]) ∧ ∃ x : Later w', w'' = x.out)
    (rAlong : ∀ w', Calls Try.prog 31 #[.agg #[.int .i64 p, .int .i64 q], .agg #[.int .i64 z, .int .i64 u], .int .i64 k, .int .i64 n] w' fun e w'' => e = .returned (.agg #[.int .i64 W1, .int .i64 W2]) ∧ ∃ x : Later w', w'' = x.out) :
    Calls Try.prog 7 #[.agg #[.int .i64 p, .int .i64 q], .agg #[.int .i64 z, .int .i64 u], .int .i64 k, .int .i64 n] w fun e w' => e = .returned (.bool true) ∧ ∃ x : Later w, w' = x.out := by
  have Hc0 := Lib.hid c0; clear c0
  have Hc1 := Lib.hid c1; clear c1
  have Hc2 := Lib.hid c2; clear c2
  have Hc3 := Lib.hid c3; clear c3
  have Hc4 := Lib.hid c4; clear c4
  have HvAdd := Lib.hid vAdd; clear vAdd
  have HrAdd := Lib.hid rAdd; clear rAdd
  have HvSub := Lib.hid vSub; clear vSub
  have HrSub := Lib.hid rSub; clear rSub
  have HvNeg := Lib.hid vNeg; clear vNeg
  have HrNeg := Lib.hid rNeg; clear rNeg
  have HvLeft := Lib.hid vLeft; clear vLeft
  have HrLeft := Lib.hid rLeft; clear rLeft
  have HvDot := Lib.hid vDot; clear vDot
  have HrDot := Lib.hid rDot; clear rDot
  have HvCross := Lib.hid vCross; clear vCross
  have HrCross := Lib.hid rCross; clear rCross
  have HvLen := Lib.hid vLen; clear vLen
  have HrLen := Lib.hid rLen; clear rLen
  have HvNorm := Lib.hid vNorm; clear vNorm
  have HrNorm := Lib.hid rNorm; clear rNorm
  have HvAlong := Lib.hid vAlong; clear vAlong
  have HrAlong := Lib.hid rAlong; clear rAlong
  go_enter Try.func7, Try.ntmps7
  go_wp2_with (fail)
  refine wp_region_later (by kernel_rfl) (by kernel_rfl) ?_
  repeat (go_big_quiet_step ((first | (go_at_call 20; with_reducible exact Later.call _ (Hc0.out _)) | (go_at_call 10; with_reducible exact Later.call _ (Hc1.out _)) | (go_at_call 11; with_reducible exact Later.call _ (shown_4 _)))))
  refine wpQuiet_nil ?_
  intro x
  go_wp2_with (first | (go_at_call 10; (with_reducible refine (Hc2.out _).mono ?_); rintro e _ ⟨rfl, x, rfl⟩) | (go_at_call 10; (with_reducible refine (Hc1.out _).mono ?_); rintro e _ ⟨rfl, x, rfl⟩) | (go_at_call 21; (with_reducible refine (Hc3.out _).mono ?_); rintro e _ ⟨rfl, x, rfl⟩) | (go_at_call 21; (with_reducible refine (Hc4.out _).mono ?_); rintro e _ ⟨rfl, x, rfl⟩) | (go_at_call 11; (with_reducible refine (shown_4 _).mono ?_); rintro e _ ⟨rfl, x, rfl⟩))
  have lf0 : w.heap.size < x.out.heap.size := (by simp [go_sem]); have lf1 : w.heap.size + 1 < x.out.heap.size := (by simp [go_sem])
  refine wp_region_later (by kernel_rfl) (by kernel_rfl) ?_
  simp only [List.append]
  repeat (go_big_quiet_step ((first | (go_at_call 16; with_reducible exact Later.call _ (HvAdd.out _)) | (go_at_call 22; with_reducible exact Later.call _ (HrAdd.out _)) | (go_at_call 17; with_reducible exact Later.call _ (HvSub.out _)) | (go_at_call 23; with_reducible exact Later.call _ (HrSub.out _)) | (go_at_call 14; with_reducible exact Later.call _ (HvNeg.out _)) | (go_at_call 24; with_reducible exact Later.call _ (HrNeg.out _)) | (go_at_call 15; with_reducible exact Later.call _ (HvLeft.out _)) | (go_at_call 25; with_reducible exact Later.call _ (HrLeft.out _)) | (go_at_call 13; with_reducible exact Later.call _ (HvDot.out _)) | (go_at_call 26; with_reducible exact Later.call _ (HrDot.out _)) | (go_at_call 18; with_reducible exact Later.call _ (HvCross.out _)) | (go_at_call 27; with_reducible exact Later.call _ (HrCross.out _)) | (go_at_call 12; with_reducible exact Later.call _ (HvLen.out _)) | (go_at_call 28; with_reducible exact Later.call _ (HrLen.out _)) | (go_at_call 29; with_reducible exact Later.call _ (HvNorm.out _)) | (go_at_call 30; with_reducible exact Later.call _ (HrNorm.out _)) | (go_at_call 19; with_reducible exact Later.call _ (HvAlong.out _)) | (go_at_call 31; with_reducible exact Later.call _ (HrAlong.out _)))))
  refine wpQuiet_nil ?_
  intro x
  go_wp2
  go_ret
  exact ⟨rfl, (Later.mk_of (by repeat (first | (with_reducible assumption) | (with_reducible exact Below.refl _ _) | (with_reducible refine Later.after ?_ _) | (with_reducible refine Later.newer ?_ _) | (with_reducible refine Below.drew ?_) | (with_reducible refine Below.setCell ?_ (by first | exact Nat.le_refl _ | exact Nat.le_add_right _ _ | omega | (simp [go_sem]; done) | (simp [go_sem]; omega)) _))))⟩
theorem walk (a0 b0 a1 b1 a2 a3 : Int) (w0 : (Lit.int .i64 a0).wf = true) (u0 : (Lit.int .i64 b0).wf = true) (w1 : (Lit.int .i64 a1).wf = true) (u1 : (Lit.int .i64 b1).wf = true) (w2 : (Lit.int .i64 a2).wf = true) (w3 : (Lit.int .i64 a3).wf = true) (w : World) :
    Calls Try.prog 7 #[.agg #[.int .i64 a0, .int .i64 b0], .agg #[.int .i64 a1, .int .i64 b1], .int .i64 a2, .int .i64 a3] w fun e w' => e = .returned (.bool true) ∧ ∃ x : Later w, w' = x.out := by
  have ho := fun v => ptNear_c a0 b0 v
  have hn := fun v => ptNear_r a0 b0 v
  have hm := fun v => ptNear_r a1 b1 v
  have hk := fun v => far_c a2 v
  have hl := fun v => far_c a3 v
  cases h : (btw a0 && btw b0)
  · rw [h] at hn ho
    exact walk_far1 a0 b0 a1 b1 _ _ w ho hn
  rw [h] at hn ho
  cases h' : (btw a1 && btw b1)
  · rw [h'] at hm
    exact walk_far2 a0 b0 a1 b1 _ _ w ho hn hm
  rw [h'] at hm
  cases hb2 : btw a2
  · rw [hb2] at hk
    exact walk_far3 a0 b0 a1 b1 _ _ w ho hn hm hk
  cases hb3 : btw a3
  · rw [hb2] at hk
    rw [hb3] at hl
    exact walk_far4 a0 b0 a1 b1 _ _ w ho hn hm hk hl
  rw [hb2] at hk
  rw [hb3] at hl
  simp only [Bool.and_eq_true, btw_iff] at h h' hb2 hb3
  obtain ⟨⟨h1, h2⟩, h3, h4⟩ := h
  obtain ⟨⟨k1, k2⟩, k3, k4⟩ := h'
  obtain ⟨l0, l9⟩ := hb2
  obtain ⟨n0, n9⟩ := hb3
  have s1 := near_sq a0 h1 h2
  have s2 := near_sq b0 h3 h4
  have i0 := isq_is (a0 * a0 + b0 * b0) (by omega)
  generalize isq (a0 * a0 + b0 * b0) = r at *
  have go := fun (W1 W2 : Int) ca cb => walk_at a0 b0 a1 b1 a2 a3 _ _ _ _ _ _ _ _ _ _ r _ _ W1 W2 w ho hn hm hk hl
    (fun v => ptAdd_c a0 b0 a1 b1 v) (fun v => ptAdd_r a0 b0 a1 b1 v) (fun v => ptSub_c a0 b0 a1 b1 v) (fun v => ptSub_r a0 b0 a1 b1 v) (fun v => ptNeg_c a0 b0 v) (fun v => ptNeg_r a0 b0 v) (fun v => ptLeft_c a0 b0 v) (fun v => ptLeft_r a0 b0 v)
    (fun v => ptDot_c a0 b0 a1 b1 v) (fun v => ptDot_r a0 b0 a1 b1 v) (fun v => ptCross_c a0 b0 a1 b1 v) (fun v => ptCross_r a0 b0 a1 b1 v)
    (fun v => ptLen_c a0 b0 r v h1 h2 h3 h4 i0) (fun v => ptLen_r a0 b0 r v h1 h2 h3 h4 i0) (fun v => norm_c a0 b0 a2 r v h1 h2 h3 h4 l0 l9 i0) (fun v => norm_r a0 b0 a2 r v h1 h2 h3 h4 l0 l9 i0) ca cb
  by_cases hz : a3 < 1
  · exact go a0 b0 (fun v => ptAlong_c0 a0 b0 a1 b1 a2 a3 v hz) (fun v => ptAlong_r0 a0 b0 a1 b1 a2 a3 v hz)
  · exact go _ _ (fun v => along_c a0 b0 a1 b1 a2 a3 v h1 h2 h3 h4 k1 k2 k3 k4 (by omega) (by omega) l0 l9) (fun v => along_r a0 b0 a1 b1 a2 a3 v h1 h2 h3 h4 k1 k2 k3 k4 (by omega) (by omega) l0 l9)


set_option maxRecDepth 100000 in
theorem lifted (os : Os) (started : os.Started) (H : Type) (enc : TypeId × Value → H) :
    ReturnsInHanded {} Try.checked os 7 .any (Rows.vectorTellsSpec.pre6 enc Try.prog Try.f7 Rows.vectorTellsRow.domain false) (Rows.vectorTellsSpec.post enc Try.prog Try.f7 false true false false) := by
  refine returnsInHanded_of_change (C := Try.checked) own started (by kernel_rfl) Try.func7
    (ChangeSpec.witness6 (enc := enc) (C := Try.checked) false ⟨#[], #[.agg #[.int .i64 0, .int .i64 0], .agg #[.int .i64 0, .int .i64 0], .int .i64 0, .int .i64 0], []⟩ 8 (by kernel_rfl) (by kernel_rfl) (by kernel_rfl) (by kernel_rfl)) ?_
  intro W base args ds gs before hval0 hW hcnd _
  have hval : ∀ (j : Nat) t v, Try.f7.params[j]? = some t → args[j]? = some v → Value.okWide Try.prog W .any base t v := hval0
  have hW' := hW
  obtain ⟨p, q, hA0, hV, rfl, hfz, hnd⟩ := hW
  have hA : DataW.TrodAll enc Try.prog W 0 (fun _ => true) true Try.f7.params.toList args.toList ds p := hA0
  rw [Try.params7] at hA hval
  obtain ⟨v0, vs0, d0, ds0, p0, q0, hargs, rfl, rfl, h0, r0⟩ := trodAll_cons hA
  obtain ⟨v1, vs1, d1, ds1, p1, q1, rfl, rfl, rfl, h1, r1⟩ := trodAll_cons r0
  obtain ⟨v2, vs2, d2, ds2, p2, q2, rfl, rfl, rfl, h2, r2⟩ := trodAll_cons r1
  obtain ⟨v3, vs3, d3, ds3, p3, q3, rfl, rfl, rfl, h3, r3⟩ := trodAll_cons r2
  obtain ⟨rfl, rfl, rfl⟩ := trodAll_nil r3
  obtain rfl : args = #[v0, v1, v2, v3] := by cases args; simp_all
  obtain ⟨rfl, rfl⟩ := trodVars_none hV
  obtain ⟨a0, b0, rfl, rfl, rfl, w0, u0⟩ := open_two Try.underlying23 (by kernel_rfl) cells23 Try.underlying3 Try.underlying3 (hval 0 23 v0 rfl rfl) h0
  obtain ⟨a1, b1, rfl, rfl, rfl, w1, u1⟩ := open_two Try.underlying23 (by kernel_rfl) cells23 Try.underlying3 Try.underlying3 (hval 1 23 v1 rfl rfl) h1
  obtain ⟨a2, rfl, rfl, rfl, w2⟩ := open_int Try.underlying3 (hval 2 3 v2 rfl rfl) h2
  obtain ⟨a3, rfl, rfl, rfl, w3⟩ := open_int Try.underlying3 (hval 3 3 v3 rfl rfl) h3
  clear hA0 hval0
  simp only [List.append_nil] at hW'
  refine (walk a0 b0 a1 b1 a2 a3 w0 u0 w1 u1 w2 w3 W).mono fun e W' ⟨he, hg⟩ => ?_
  subst he
  exact ⟨_, rfl, post_later (pa := []) hW' (fun _ _ _ => (trodAll_cons_mk (shut_bool Try.underlying4 _) trodAll_mk0)) (fun sp _ => (trodAll_cons_mk (shut_two Try.underlying23 (by kernel_rfl) cells23 Try.underlying3 Try.underlying3 w0 u0) (trodAll_cons_mk (shut_two Try.underlying23 (by kernel_rfl) cells23 Try.underlying3 Try.underlying3 w1 u1) (trodAll_cons_mk (shut_int Try.underlying3 w2) (trodAll_cons_mk (shut_int Try.underlying3 w3) trodAll_mk0))))) (fun _ _ => rfl) rfl
    hg (ok_one (by kernel_rfl) rfl (okWide_bool_mk Try.underlying4 _))⟩

theorem over : Rows.vectorTellsRow.holds Try.pinned (OpenSpec.ofChange Rows.vectorTellsSpec) :=
  OpenClaim.holds_of_wide 7 Try.f7 rfl rfl rfl rfl rfl rfl rfl ⟨rfl, rfl, rfl, rfl, rfl⟩ rfl rfl rfl rfl rfl (by kernel_rfl) Try.func7 (by kernel_rfl)
    (of_decide_eq_true (by kernel_rfl)) (by unfold Func.isWrapper; first | (rw [if_pos (by decide +kernel)]; kernel_rfl) | (rw [if_neg (by decide +kernel)]; exact ⟨rfl, rfl⟩))
    (fun os started H enc _ => lifted os started H enc)

theorem proved : Rows.VectorTellsSaid :=
  over
#print axioms proved
end Go.Proofs.Ytdlemjecocmbgaa.vectorTells

