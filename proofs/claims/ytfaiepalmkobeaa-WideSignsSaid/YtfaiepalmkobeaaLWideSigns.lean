/-
  The statement of WideSigns, for every input: its walk, and the row round it.
-/
import Derived.Test.YtfaiepalmkobeaaW8
import Derived.Test.YtfaiepalmkobeaaRow
import Derived.ProofKit
import Derived.OpenShut
namespace Go.Proofs.Ytfaiepalmkobeaa.wideSigns
open Go.ChangeShapes Go.WideShapes Go.ChangeAt Go.RowKit Go.Joins
set_option linter.unusedVariables false

theorem cells24 : Try.prog.cellsOf 24 = 2 := by kernel_rfl
set_option maxRecDepth 100000 in
set_option maxHeartbeats 2000000 in
theorem signs_low (m n ah al s1 s2 p m1 m2 n1 n2 p1 p2 c1 c2 k : Int) (w : World) (h1 : ∀ w', Calls Try.prog 21 #[.int .i64 m] w' fun e w'' => e = .returned (.agg #[.int .i64 m1, .int .u64 m2]) ∧ ∃ x : Later w', w'' = x.out) (h2 : ∀ w', Calls Try.prog 21 #[.int .i64 n] w' fun e w'' => e = .returned (.agg #[.int .i64 n1, .int .u64 n2]) ∧ ∃ x : Later w', w'' = x.out) (h3 : ∀ w', Calls Try.prog 20 #[.agg #[.int .i64 m1, .int .u64 m2]] w' fun e w'' => e = .returned (.int .i64 s1) ∧ ∃ x : Later w', w'' = x.out) (h4 : ∀ w', Calls Try.prog 20 #[.agg #[.int .i64 n1, .int .u64 n2]] w' fun e w'' => e = .returned (.int .i64 s2) ∧ ∃ x : Later w', w'' = x.out) (e1 : wrap64 (s1 * s2) = p)
    (h5 : ∀ w', Calls Try.prog 15 #[.agg #[.int .i64 ah, .int .u64 al], .int .i64 1] w' fun e w'' => e = .returned (.tuple #[.agg #[.int .i64 ah, .int .u64 al], .int .i64 0, .int .i64 0]) ∧ ∃ x : Later w', w'' = x.out) (h6 : ∀ w', Calls Try.prog 17 #[.agg #[.int .i64 ah, .int .u64 al]] w' fun e w'' => e = .returned (.tuple #[.int .i64 0, .bool false]) ∧ ∃ x : Later w', w'' = x.out) (h7 : ∀ w', Calls Try.prog 15 #[.agg #[.int .i64 ah, .int .u64 al], .int .i64 0] w' fun e w'' => e = .returned (.tuple #[.agg #[.int .i64 0, .int .u64 0], .int .i64 0, .int .i64 1]) ∧ ∃ x : Later w', w'' = x.out)
    (h8 : ∀ w', Calls Try.prog 21 #[.int .i64 (-9223372036854775808)] w' fun e w'' => e = .returned (.agg #[.int .i64 (-1), .int .u64 9223372036854775808]) ∧ ∃ x : Later w', w'' = x.out) (h9 : ∀ w', Calls Try.prog 22 #[.agg #[.int .i64 ah, .int .u64 al], .agg #[.int .i64 (-1), .int .u64 9223372036854775808]] w' fun e w'' => e = .returned (.int .i64 c1) ∧ ∃ x : Later w', w'' = x.out) (h10 : ∀ w', Calls Try.prog 23 #[.int .i64 m, .int .i64 n] w' fun e w'' => e = .returned (.agg #[.int .i64 p1, .int .u64 p2]) ∧ ∃ x : Later w', w'' = x.out) (h11 : ∀ w', Calls Try.prog 20 #[.agg #[.int .i64 p1, .int .u64 p2]] w' fun e w'' => e = .returned (.int .i64 p) ∧ ∃ x : Later w', w'' = x.out)
    (h12 : ∀ w', Calls Try.prog 21 #[.int .i64 9223372036854775807] w' fun e w'' => e = .returned (.agg #[.int .i64 0, .int .u64 9223372036854775807]) ∧ ∃ x : Later w', w'' = x.out) (h13 : ∀ w', Calls Try.prog 22 #[.agg #[.int .i64 ah, .int .u64 al], .agg #[.int .i64 0, .int .u64 9223372036854775807]] w' fun e w'' => e = .returned (.int .i64 c2) ∧ ∃ x : Later w', w'' = x.out)  (hc : c1 < 0) (d1 : decide (0 ≤ c1) = false) :
    Calls Try.prog 4 #[.int .i64 m, .int .i64 n, .agg #[.int .i64 ah, .int .u64 al]] w fun e w' => e = .returned (.bool true) ∧ ∃ x : Later w, w' = x.out := by
  have Hh1 := Lib.hid h1; clear h1
  have Hh2 := Lib.hid h2; clear h2
  have Hh3 := Lib.hid h3; clear h3
  have Hh4 := Lib.hid h4; clear h4
  have Hh5 := Lib.hid h5; clear h5
  have Hh6 := Lib.hid h6; clear h6
  have Hh7 := Lib.hid h7; clear h7
  have Hh8 := Lib.hid h8; clear h8
  have Hh9 := Lib.hid h9; clear h9
  have Hh10 := Lib.hid h10; clear h10
  have Hh11 := Lib.hid h11; clear h11
  have Hh12 := Lib.hid h12; clear h12
  have Hh13 := Lib.hid h13; clear h13
  go_enter Try.func4, Try.ntmps4
  go_wp2_with (first | (go_at_call 21; (with_reducible refine (Hh1.out _).mono ?_); rintro e _ ⟨rfl, x, rfl⟩) | (go_at_call 21; (with_reducible refine (Hh2.out _).mono ?_); rintro e _ ⟨rfl, x, rfl⟩) | (go_at_call 20; (with_reducible refine (Hh3.out _).mono ?_); rintro e _ ⟨rfl, x, rfl⟩) | (go_at_call 20; (with_reducible refine (Hh4.out _).mono ?_); rintro e _ ⟨rfl, x, rfl⟩) | (go_at_call 15; (with_reducible refine (Hh5.out _).mono ?_); rintro e _ ⟨rfl, x, rfl⟩) | (go_at_call 17; (with_reducible refine (Hh6.out _).mono ?_); rintro e _ ⟨rfl, x, rfl⟩) | (go_at_call 15; (with_reducible refine (Hh7.out _).mono ?_); rintro e _ ⟨rfl, x, rfl⟩))
  refine wp_region_later (by kernel_rfl) (by kernel_rfl) ?_
  repeat (go_big_quiet_step ((first | (go_at_call 21; with_reducible exact Later.call _ (Hh8.out _)) | (go_at_call 22; with_reducible exact Later.call _ (Hh9.out _)) | (go_at_call 21; with_reducible exact Later.call _ (Hh12.out _)) | (go_at_call 22; with_reducible exact Later.call _ (Hh13.out _)))))
  refine wpQuiet_nil ?_
  intro x
  go_wp2_with (fail)
  refine wp_region_later (by kernel_rfl) (by kernel_rfl) ?_
  repeat (go_big_quiet_step ((first | (go_at_call 23; with_reducible exact Later.call _ (Hh10.out _)) | (go_at_call 20; with_reducible exact Later.call _ (Hh11.out _)) | (go_at_call 19; with_reducible exact Later.call _ (shown_c _)))))
  refine wpQuiet_nil ?_
  intro x
  go_wp2
  go_ret
  exact ⟨rfl, (Later.mk_of (by repeat (first | (with_reducible assumption) | (with_reducible exact Below.refl _ _) | (with_reducible refine Later.after ?_ _) | (with_reducible refine Later.newer ?_ _) | (with_reducible refine Below.drew ?_) | (with_reducible refine Below.setCell ?_ (by first | exact Nat.le_refl _ | exact Nat.le_add_right _ _ | omega | (simp [go_sem]; done) | (simp [go_sem]; omega)) _))))⟩

set_option maxRecDepth 100000 in
set_option maxHeartbeats 2000000 in
theorem signs_high (m n ah al s1 s2 p m1 m2 n1 n2 p1 p2 c1 c2 k : Int) (w : World) (h1 : ∀ w', Calls Try.prog 21 #[.int .i64 m] w' fun e w'' => e = .returned (.agg #[.int .i64 m1, .int .u64 m2]) ∧ ∃ x : Later w', w'' = x.out) (h2 : ∀ w', Calls Try.prog 21 #[.int .i64 n] w' fun e w'' => e = .returned (.agg #[.int .i64 n1, .int .u64 n2]) ∧ ∃ x : Later w', w'' = x.out) (h3 : ∀ w', Calls Try.prog 20 #[.agg #[.int .i64 m1, .int .u64 m2]] w' fun e w'' => e = .returned (.int .i64 s1) ∧ ∃ x : Later w', w'' = x.out) (h4 : ∀ w', Calls Try.prog 20 #[.agg #[.int .i64 n1, .int .u64 n2]] w' fun e w'' => e = .returned (.int .i64 s2) ∧ ∃ x : Later w', w'' = x.out) (e1 : wrap64 (s1 * s2) = p)
    (h5 : ∀ w', Calls Try.prog 15 #[.agg #[.int .i64 ah, .int .u64 al], .int .i64 1] w' fun e w'' => e = .returned (.tuple #[.agg #[.int .i64 ah, .int .u64 al], .int .i64 0, .int .i64 0]) ∧ ∃ x : Later w', w'' = x.out) (h6 : ∀ w', Calls Try.prog 17 #[.agg #[.int .i64 ah, .int .u64 al]] w' fun e w'' => e = .returned (.tuple #[.int .i64 0, .bool false]) ∧ ∃ x : Later w', w'' = x.out) (h7 : ∀ w', Calls Try.prog 15 #[.agg #[.int .i64 ah, .int .u64 al], .int .i64 0] w' fun e w'' => e = .returned (.tuple #[.agg #[.int .i64 0, .int .u64 0], .int .i64 0, .int .i64 1]) ∧ ∃ x : Later w', w'' = x.out)
    (h8 : ∀ w', Calls Try.prog 21 #[.int .i64 (-9223372036854775808)] w' fun e w'' => e = .returned (.agg #[.int .i64 (-1), .int .u64 9223372036854775808]) ∧ ∃ x : Later w', w'' = x.out) (h9 : ∀ w', Calls Try.prog 22 #[.agg #[.int .i64 ah, .int .u64 al], .agg #[.int .i64 (-1), .int .u64 9223372036854775808]] w' fun e w'' => e = .returned (.int .i64 c1) ∧ ∃ x : Later w', w'' = x.out) (h10 : ∀ w', Calls Try.prog 23 #[.int .i64 m, .int .i64 n] w' fun e w'' => e = .returned (.agg #[.int .i64 p1, .int .u64 p2]) ∧ ∃ x : Later w', w'' = x.out) (h11 : ∀ w', Calls Try.prog 20 #[.agg #[.int .i64 p1, .int .u64 p2]] w' fun e w'' => e = .returned (.int .i64 p) ∧ ∃ x : Later w', w'' = x.out)
    (h12 : ∀ w', Calls Try.prog 21 #[.int .i64 9223372036854775807] w' fun e w'' => e = .returned (.agg #[.int .i64 0, .int .u64 9223372036854775807]) ∧ ∃ x : Later w', w'' = x.out) (h13 : ∀ w', Calls Try.prog 22 #[.agg #[.int .i64 ah, .int .u64 al], .agg #[.int .i64 0, .int .u64 9223372036854775807]] w' fun e w'' => e = .returned (.int .i64 c2) ∧ ∃ x : Later w', w'' = x.out)  (hc : 0 ≤ c1) (hd : 0 < c2) (d1 : decide (0 ≤ c1) = true) (d2 : decide (c2 ≤ 0) = false) :
    Calls Try.prog 4 #[.int .i64 m, .int .i64 n, .agg #[.int .i64 ah, .int .u64 al]] w fun e w' => e = .returned (.bool true) ∧ ∃ x : Later w, w' = x.out := by
  have Hh1 := Lib.hid h1; clear h1
  have Hh2 := Lib.hid h2; clear h2
  have Hh3 := Lib.hid h3; clear h3
  have Hh4 := Lib.hid h4; clear h4
  have Hh5 := Lib.hid h5; clear h5
  have Hh6 := Lib.hid h6; clear h6
  have Hh7 := Lib.hid h7; clear h7
  have Hh8 := Lib.hid h8; clear h8
  have Hh9 := Lib.hid h9; clear h9
  have Hh10 := Lib.hid h10; clear h10
  have Hh11 := Lib.hid h11; clear h11
  have Hh12 := Lib.hid h12; clear h12
  have Hh13 := Lib.hid h13; clear h13
  go_enter Try.func4, Try.ntmps4
  go_wp2_with (first | (go_at_call 21; (with_reducible refine (Hh1.out _).mono ?_); rintro e _ ⟨rfl, x, rfl⟩) | (go_at_call 21; (with_reducible refine (Hh2.out _).mono ?_); rintro e _ ⟨rfl, x, rfl⟩) | (go_at_call 20; (with_reducible refine (Hh3.out _).mono ?_); rintro e _ ⟨rfl, x, rfl⟩) | (go_at_call 20; (with_reducible refine (Hh4.out _).mono ?_); rintro e _ ⟨rfl, x, rfl⟩) | (go_at_call 15; (with_reducible refine (Hh5.out _).mono ?_); rintro e _ ⟨rfl, x, rfl⟩) | (go_at_call 17; (with_reducible refine (Hh6.out _).mono ?_); rintro e _ ⟨rfl, x, rfl⟩) | (go_at_call 15; (with_reducible refine (Hh7.out _).mono ?_); rintro e _ ⟨rfl, x, rfl⟩))
  refine wp_region_later (by kernel_rfl) (by kernel_rfl) ?_
  repeat (go_big_quiet_step ((first | (go_at_call 21; with_reducible exact Later.call _ (Hh8.out _)) | (go_at_call 22; with_reducible exact Later.call _ (Hh9.out _)) | (go_at_call 21; with_reducible exact Later.call _ (Hh12.out _)) | (go_at_call 22; with_reducible exact Later.call _ (Hh13.out _)))))
  refine wpQuiet_nil ?_
  intro x
  go_wp2_with (fail)
  refine wp_region_later (by kernel_rfl) (by kernel_rfl) ?_
  repeat (go_big_quiet_step ((first | (go_at_call 23; with_reducible exact Later.call _ (Hh10.out _)) | (go_at_call 20; with_reducible exact Later.call _ (Hh11.out _)) | (go_at_call 19; with_reducible exact Later.call _ (shown_c _)))))
  refine wpQuiet_nil ?_
  intro x
  go_wp2
  go_ret
  exact ⟨rfl, (Later.mk_of (by repeat (first | (with_reducible assumption) | (with_reducible exact Below.refl _ _) | (with_reducible refine Later.after ?_ _) | (with_reducible refine Later.newer ?_ _) | (with_reducible refine Below.drew ?_) | (with_reducible refine Below.setCell ?_ (by first | exact Nat.le_refl _ | exact Nat.le_add_right _ _ | omega | (simp [go_sem]; done) | (simp [go_sem]; omega)) _))))⟩

set_option maxRecDepth 100000 in
set_option maxHeartbeats 2000000 in
theorem signs_mid (m n ah al s1 s2 p m1 m2 n1 n2 p1 p2 c1 c2 k : Int) (w : World) (h1 : ∀ w', Calls Try.prog 21 #[.int .i64 m] w' fun e w'' => e = .returned (.agg #[.int .i64 m1, .int .u64 m2]) ∧ ∃ x : Later w', w'' = x.out) (h2 : ∀ w', Calls Try.prog 21 #[.int .i64 n] w' fun e w'' => e = .returned (.agg #[.int .i64 n1, .int .u64 n2]) ∧ ∃ x : Later w', w'' = x.out) (h3 : ∀ w', Calls Try.prog 20 #[.agg #[.int .i64 m1, .int .u64 m2]] w' fun e w'' => e = .returned (.int .i64 s1) ∧ ∃ x : Later w', w'' = x.out) (h4 : ∀ w', Calls Try.prog 20 #[.agg #[.int .i64 n1, .int .u64 n2]] w' fun e w'' => e = .returned (.int .i64 s2) ∧ ∃ x : Later w', w'' = x.out) (e1 : wrap64 (s1 * s2) = p)
    (h5 : ∀ w', Calls Try.prog 15 #[.agg #[.int .i64 ah, .int .u64 al], .int .i64 1] w' fun e w'' => e = .returned (.tuple #[.agg #[.int .i64 ah, .int .u64 al], .int .i64 0, .int .i64 0]) ∧ ∃ x : Later w', w'' = x.out) (h6 : ∀ w', Calls Try.prog 17 #[.agg #[.int .i64 ah, .int .u64 al]] w' fun e w'' => e = .returned (.tuple #[.int .i64 k, .bool true]) ∧ ∃ x : Later w', w'' = x.out) (h7 : ∀ w', Calls Try.prog 15 #[.agg #[.int .i64 ah, .int .u64 al], .int .i64 0] w' fun e w'' => e = .returned (.tuple #[.agg #[.int .i64 0, .int .u64 0], .int .i64 0, .int .i64 1]) ∧ ∃ x : Later w', w'' = x.out)
    (h8 : ∀ w', Calls Try.prog 21 #[.int .i64 (-9223372036854775808)] w' fun e w'' => e = .returned (.agg #[.int .i64 (-1), .int .u64 9223372036854775808]) ∧ ∃ x : Later w', w'' = x.out) (h9 : ∀ w', Calls Try.prog 22 #[.agg #[.int .i64 ah, .int .u64 al], .agg #[.int .i64 (-1), .int .u64 9223372036854775808]] w' fun e w'' => e = .returned (.int .i64 c1) ∧ ∃ x : Later w', w'' = x.out) (h10 : ∀ w', Calls Try.prog 23 #[.int .i64 m, .int .i64 n] w' fun e w'' => e = .returned (.agg #[.int .i64 p1, .int .u64 p2]) ∧ ∃ x : Later w', w'' = x.out) (h11 : ∀ w', Calls Try.prog 20 #[.agg #[.int .i64 p1, .int .u64 p2]] w' fun e w'' => e = .returned (.int .i64 p) ∧ ∃ x : Later w', w'' = x.out)
    (h12 : ∀ w', Calls Try.prog 21 #[.int .i64 9223372036854775807] w' fun e w'' => e = .returned (.agg #[.int .i64 0, .int .u64 9223372036854775807]) ∧ ∃ x : Later w', w'' = x.out) (h13 : ∀ w', Calls Try.prog 22 #[.agg #[.int .i64 ah, .int .u64 al], .agg #[.int .i64 0, .int .u64 9223372036854775807]] w' fun e w'' => e = .returned (.int .i64 c2) ∧ ∃ x : Later w', w'' = x.out) (h14 : ∀ w', Calls Try.prog 21 #[.int .i64 k] w' fun e w'' => e = .returned (.agg #[.int .i64 ah, .int .u64 al]) ∧ ∃ x : Later w', w'' = x.out) (hc : 0 ≤ c1) (hd : c2 ≤ 0) (d1 : decide (0 ≤ c1) = true) (d2 : decide (c2 ≤ 0) = true) :
    Calls Try.prog 4 #[.int .i64 m, .int .i64 n, .agg #[.int .i64 ah, .int .u64 al]] w fun e w' => e = .returned (.bool true) ∧ ∃ x : Later w, w' = x.out := by
  have Hh1 := Lib.hid h1; clear h1
  have Hh2 := Lib.hid h2; clear h2
  have Hh3 := Lib.hid h3; clear h3
  have Hh4 := Lib.hid h4; clear h4
  have Hh5 := Lib.hid h5; clear h5
  have Hh6 := Lib.hid h6; clear h6
  have Hh7 := Lib.hid h7; clear h7
  have Hh8 := Lib.hid h8; clear h8
  have Hh9 := Lib.hid h9; clear h9
  have Hh10 := Lib.hid h10; clear h10
  have Hh11 := Lib.hid h11; clear h11
  have Hh12 := Lib.hid h12; clear h12
  have Hh13 := Lib.hid h13; clear h13
  have Hh14 := Lib.hid h14; clear h14
  go_enter Try.func4, Try.ntmps4
  go_wp2_with (first | (go_at_call 21; (with_reducible refine (Hh1.out _).mono ?_); rintro e _ ⟨rfl, x, rfl⟩) | (go_at_call 21; (with_reducible refine (Hh2.out _).mono ?_); rintro e _ ⟨rfl, x, rfl⟩) | (go_at_call 20; (with_reducible refine (Hh3.out _).mono ?_); rintro e _ ⟨rfl, x, rfl⟩) | (go_at_call 20; (with_reducible refine (Hh4.out _).mono ?_); rintro e _ ⟨rfl, x, rfl⟩) | (go_at_call 15; (with_reducible refine (Hh5.out _).mono ?_); rintro e _ ⟨rfl, x, rfl⟩) | (go_at_call 17; (with_reducible refine (Hh6.out _).mono ?_); rintro e _ ⟨rfl, x, rfl⟩) | (go_at_call 15; (with_reducible refine (Hh7.out _).mono ?_); rintro e _ ⟨rfl, x, rfl⟩))
  refine wp_region_later (by kernel_rfl) (by kernel_rfl) ?_
  repeat (go_big_quiet_step ((first | (go_at_call 21; with_reducible exact Later.call _ (Hh8.out _)) | (go_at_call 22; with_reducible exact Later.call _ (Hh9.out _)) | (go_at_call 21; with_reducible exact Later.call _ (Hh12.out _)) | (go_at_call 22; with_reducible exact Later.call _ (Hh13.out _)))))
  refine wpQuiet_nil ?_
  intro x
  go_wp2_with (fail)
  refine wp_region_later (by kernel_rfl) (by kernel_rfl) ?_
  repeat (go_big_quiet_step ((first | (go_at_call 23; with_reducible exact Later.call _ (Hh10.out _)) | (go_at_call 20; with_reducible exact Later.call _ (Hh11.out _)) | (go_at_call 21; with_reducible exact Later.call _ (Hh14.out _)) | (go_at_call 19; with_reducible exact Later.call _ (shown_c _)))))
  refine wpQuiet_nil ?_
  intro x
  go_wp2
  go_ret
  exact ⟨rfl, (Later.mk_of (by repeat (first | (with_reducible assumption) | (with_reducible exact Below.refl _ _) | (with_reducible refine Later.after ?_ _) | (with_reducible refine Later.newer ?_ _) | (with_reducible refine Below.drew ?_) | (with_reducible refine Below.setCell ?_ (by first | exact Nat.le_refl _ | exact Nat.le_add_right _ _ | omega | (simp [go_sem]; done) | (simp [go_sem]; omega)) _))))⟩

theorem ord_mul (m n : Int) : wrap64 (ordW m 0 * ordW n 0) = ordW (m * n) 0 := by
  have e : ordW (m * n) 0 = ordW m 0 * ordW n 0 := by
    unfold ordW
    rcases Int.lt_trichotomy m 0 with h | h | h <;> rcases Int.lt_trichotomy n 0 with k | k | k
    · have := Int.mul_pos_of_neg_of_neg h k; simp [show m ≠ 0 by omega, show n ≠ 0 by omega, h, k, show m * n ≠ 0 by omega, show ¬ m * n < 0 by omega]
    · simp [k]
    · have := Int.mul_neg_of_neg_of_pos h k; simp [show m ≠ 0 by omega, show n ≠ 0 by omega, h, show ¬ n < 0 by omega, show m * n ≠ 0 by omega, this]
    · simp [h]
    · simp [h]
    · simp [h]
    · have := Int.mul_neg_of_pos_of_neg h k; simp [show m ≠ 0 by omega, show n ≠ 0 by omega, k, show ¬ m < 0 by omega, show m * n ≠ 0 by omega, this]
    · simp [k]
    · have := Int.mul_pos h k; simp [show m ≠ 0 by omega, show n ≠ 0 by omega, show ¬ m < 0 by omega, show ¬ n < 0 by omega, show m * n ≠ 0 by omega, show ¬ m * n < 0 by omega]
  rw [← e]
  unfold wrap64 ordW
  split <;> (try split) <;> omega

theorem walk (a0 a1 a2 b2 : Int) (w0 : (Lit.int .i64 a0).wf = true) (w1 : (Lit.int .i64 a1).wf = true) (w2 : (Lit.int .i64 a2).wf = true) (u2 : (Lit.int .u64 b2).wf = true) (w : World) :
    Calls Try.prog 4 #[.int .i64 a0, .int .i64 a1, .agg #[.int .i64 a2, .int .u64 b2]] w fun e w' => e = .returned (.bool true) ∧ ∃ x : Later w, w' = x.out := by
  obtain ⟨n, hn, rfl, rfl⟩ := both_of a2 b2 (bounds_i64 w2) (bounds_u64 u2)
  have c0 := bounds_i64 w0
  have c1 := bounds_i64 w1
  have r0 := R64_of w0
  have r1 := R64_of w1
  have p1 : a0 * a1 ≤ 9223372036854775808 * 9223372036854775808 := by
    have := Int.mul_le_mul_of_natAbs_le (x := a0) (y := a1) (s := 9223372036854775808) (t := 9223372036854775808) (by omega) (by omega)
    omega
  have p2 : -(9223372036854775808 * 9223372036854775808) ≤ a0 * a1 := by
    have := Int.mul_le_mul_of_natAbs_le (x := -a0) (y := a1) (s := 9223372036854775808) (t := 9223372036854775808) (by omega) (by omega)
    rw [Int.neg_mul] at this
    omega
  have h5 := fun v => div_c n 1 v hn (by omega) (by omega)
  rw [Int.ediv_one, Int.emod_one] at h5
  have h8 := fun v => of_c (-9223372036854775808) v (by unfold R64; omega)
  have h9 := fun v => cmp_c n (-9223372036854775808) v hn (by unfold R128; omega)
  rw [show hiW (-9223372036854775808) = -1 by unfold hiW; omega, show loW (-9223372036854775808) = 9223372036854775808 by unfold loW; omega] at h8 h9
  have h12 := fun v => of_c 9223372036854775807 v (by unfold R64; omega)
  have h13 := fun v => cmp_c n 9223372036854775807 v hn (by unfold R128; omega)
  rw [show hiW 9223372036854775807 = 0 by unfold hiW; omega, show loW 9223372036854775807 = 9223372036854775807 by unfold loW; omega] at h12 h13
  have rp : R128 (a0 * a1) := by unfold R128; omega
  have rm : ∀ k, R64 k → R128 k := fun k h => by unfold R64 at h; unfold R128; omega
  by_cases g1 : n < -9223372036854775808
  · have e : ordW n (-9223372036854775808) = -1 := by unfold ordW; rw [if_neg (by omega), if_pos g1]
    exact signs_low a0 a1 _ _ _ _ _ _ _ _ _ _ _ _ _ n w (fun v => of_c a0 v r0) (fun v => of_c a1 v r1) (fun v => sign_c a0 v (rm _ r0)) (fun v => sign_c a1 v (rm _ r1)) (ord_mul a0 a1) h5 (fun v => narrow_no n v hn (by unfold R64; omega)) (fun v => div_c_bad n 0 v hn (by omega)) h8 h9 (fun v => mul_c a0 a1 v r0 r1) (fun v => sign_c _ v rp) h12 h13 (by omega) (by rw [e]; decide)
  · by_cases g2 : 9223372036854775807 < n
    · have e : ordW n 9223372036854775807 = 1 := by unfold ordW; rw [if_neg (by omega), if_neg (by omega)]
      have e0 : 0 ≤ ordW n (-9223372036854775808) := by unfold ordW; rw [if_neg (by omega), if_neg (by omega)]; omega
      exact signs_high a0 a1 _ _ _ _ _ _ _ _ _ _ _ _ _ n w (fun v => of_c a0 v r0) (fun v => of_c a1 v r1) (fun v => sign_c a0 v (rm _ r0)) (fun v => sign_c a1 v (rm _ r1)) (ord_mul a0 a1) h5 (fun v => narrow_no n v hn (by unfold R64; omega)) (fun v => div_c_bad n 0 v hn (by omega)) h8 h9 (fun v => mul_c a0 a1 v r0 r1) (fun v => sign_c _ v rp) h12 h13 e0 (by omega) (by simpa using e0) (by rw [e]; decide)
    · have rn : R64 n := by unfold R64; omega
      have e0 : 0 ≤ ordW n (-9223372036854775808) := by unfold ordW; split <;> (try split) <;> omega
      have e1 : ordW n 9223372036854775807 ≤ 0 := by unfold ordW; split <;> (try split) <;> omega
      exact signs_mid a0 a1 _ _ _ _ _ _ _ _ _ _ _ _ _ n w (fun v => of_c a0 v r0) (fun v => of_c a1 v r1) (fun v => sign_c a0 v (rm _ r0)) (fun v => sign_c a1 v (rm _ r1)) (ord_mul a0 a1) h5 (fun v => narrow_yes n v rn) (fun v => div_c_bad n 0 v hn (by omega)) h8 h9 (fun v => mul_c a0 a1 v r0 r1) (fun v => sign_c _ v rp) h12 h13 (fun v => of_c n v rn) e0 e1 (by simpa using e0) (by simpa using e1)


set_option maxRecDepth 100000 in
theorem lifted (os : Os) (started : os.Started) (H : Type) (enc : TypeId × Value → H) :
    ReturnsInHanded {} Try.checked os 4 .any (Rows.wideSignsSpec.pre6 enc Try.prog Try.f4 Rows.wideSignsRow.domain false) (Rows.wideSignsSpec.post enc Try.prog Try.f4 false true false false) := by
  refine returnsInHanded_of_change (C := Try.checked) own started (by kernel_rfl) Try.func4
    (ChangeSpec.witness6 (enc := enc) (C := Try.checked) false ⟨#[], #[.int .i64 0, .int .i64 0, .agg #[.int .i64 0, .int .u64 0]], []⟩ 8 (by kernel_rfl) (by kernel_rfl) (by kernel_rfl) (by kernel_rfl)) ?_
  intro W base args ds gs before hval0 hW hcnd _
  have hval : ∀ (j : Nat) t v, Try.f4.params[j]? = some t → args[j]? = some v → Value.okWide Try.prog W .any base t v := hval0
  have hW' := hW
  obtain ⟨p, q, hA0, hV, rfl, hfz, hnd⟩ := hW
  have hA : DataW.TrodAll enc Try.prog W 0 (fun _ => true) true Try.f4.params.toList args.toList ds p := hA0
  rw [Try.params4] at hA hval
  obtain ⟨v0, vs0, d0, ds0, p0, q0, hargs, rfl, rfl, h0, r0⟩ := trodAll_cons hA
  obtain ⟨v1, vs1, d1, ds1, p1, q1, rfl, rfl, rfl, h1, r1⟩ := trodAll_cons r0
  obtain ⟨v2, vs2, d2, ds2, p2, q2, rfl, rfl, rfl, h2, r2⟩ := trodAll_cons r1
  obtain ⟨rfl, rfl, rfl⟩ := trodAll_nil r2
  obtain rfl : args = #[v0, v1, v2] := by cases args; simp_all
  obtain ⟨rfl, rfl⟩ := trodVars_none hV
  obtain ⟨a0, rfl, rfl, rfl, w0⟩ := open_int Try.underlying2 (hval 0 2 v0 rfl rfl) h0
  obtain ⟨a1, rfl, rfl, rfl, w1⟩ := open_int Try.underlying2 (hval 1 2 v1 rfl rfl) h1
  obtain ⟨a2, b2, rfl, rfl, rfl, w2, u2⟩ := open_two Try.underlying24 (by kernel_rfl) cells24 Try.underlying2 Try.underlying22 (hval 2 24 v2 rfl rfl) h2
  clear hA0 hval0
  simp only [List.append_nil] at hW'
  refine (walk a0 a1 a2 b2 w0 w1 w2 u2 W).mono fun e W' ⟨he, hg⟩ => ?_
  subst he
  exact ⟨_, rfl, post_later (pa := []) hW' (fun _ _ _ => (trodAll_cons_mk (shut_bool Try.underlying4 _) trodAll_mk0)) (fun sp _ => (trodAll_cons_mk (shut_int Try.underlying2 w0) (trodAll_cons_mk (shut_int Try.underlying2 w1) (trodAll_cons_mk (shut_two Try.underlying24 (by kernel_rfl) cells24 Try.underlying2 Try.underlying22 w2 u2) trodAll_mk0)))) (fun _ _ => rfl) rfl
    hg (ok_one (by kernel_rfl) rfl (okWide_bool_mk Try.underlying4 _))⟩

theorem over : Rows.wideSignsRow.holds Try.pinned (OpenSpec.ofChange Rows.wideSignsSpec) :=
  OpenClaim.holds_of_wide 4 Try.f4 rfl rfl rfl rfl rfl rfl rfl ⟨rfl, rfl, rfl, rfl, rfl⟩ rfl rfl rfl rfl rfl (by kernel_rfl) Try.func4 (by kernel_rfl)
    (of_decide_eq_true (by kernel_rfl)) (by unfold Func.isWrapper; first | (rw [if_pos (by decide +kernel)]; kernel_rfl) | (rw [if_neg (by decide +kernel)]; exact ⟨rfl, rfl⟩))
    (fun os started H enc _ => lifted os started H enc)

theorem proved : Rows.WideSignsSaid :=
  over
#print axioms proved
end Go.Proofs.Ytfaiepalmkobeaa.wideSigns

