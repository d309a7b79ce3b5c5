/-
  The contracts of lengths, and of places on a way.
-/
import Derived.Test.YtdlemjecocmbgaaV1
namespace Go.Proofs.Ytdlemjecocmbgaa
set_option linter.unusedVariables false
open Go.RowKit

/-- a number that is not too far away -/
def btw (n : Int) : Bool := decide (-1073741824 ≤ n) && decide (n ≤ 1073741824)
theorem btw_iff (n : Int) : btw n = true ↔ -1073741824 ≤ n ∧ n ≤ 1073741824 := by unfold btw; simp


set_option maxRecDepth 100000 in
set_option maxHeartbeats 400000 in
theorem btw_yes (n : Int) (w : World)
    (h1 : -1073741824 ≤ n) (h2 : n ≤ 1073741824) :
    Calls Try.prog 45 #[.int .i64 n] w fun e w' => e = .returned (.bool true) ∧ ∃ x : Later w, w' = x.out := by
  skip
  go_enter Try.func45, Try.ntmps45
  go_wp2_with (fail)
  exact bodyPost_ret (v := .bool true) (by simp [results, Try.results45, go_sem, *]) rfl ⟨rfl, (Later.mk_of (by repeat (first | (with_reducible assumption) | (with_reducible exact Below.refl _ _) | (with_reducible refine Later.after ?_ _) | (with_reducible refine Later.newer ?_ _) | (with_reducible refine Below.drew ?_) | (with_reducible refine Below.setCell ?_ (by first | exact Nat.le_refl _ | exact Nat.le_add_right _ _ | omega | (simp [go_sem]; done) | (simp [go_sem]; omega)) _))))⟩


set_option maxRecDepth 100000 in
set_option maxHeartbeats 400000 in
theorem btw_lo (n : Int) (w : World)
    (h1 : n < -1073741824) :
    Calls Try.prog 45 #[.int .i64 n] w fun e w' => e = .returned (.bool false) ∧ ∃ x : Later w, w' = x.out := by
  skip
  go_enter Try.func45, Try.ntmps45
  go_wp2_with (fail)
  exact bodyPost_ret (v := .bool false) (by simp [results, Try.results45, go_sem, *]) rfl ⟨rfl, (Later.mk_of (by repeat (first | (with_reducible assumption) | (with_reducible exact Below.refl _ _) | (with_reducible refine Later.after ?_ _) | (with_reducible refine Later.newer ?_ _) | (with_reducible refine Below.drew ?_) | (with_reducible refine Below.setCell ?_ (by first | exact Nat.le_refl _ | exact Nat.le_add_right _ _ | omega | (simp [go_sem]; done) | (simp [go_sem]; omega)) _))))⟩


set_option maxRecDepth 100000 in
set_option maxHeartbeats 400000 in
theorem btw_hi (n : Int) (w : World)
    (h1 : -1073741824 ≤ n) (h2 : 1073741824 < n) :
    Calls Try.prog 45 #[.int .i64 n] w fun e w' => e = .returned (.bool false) ∧ ∃ x : Later w, w' = x.out := by
  skip
  go_enter Try.func45, Try.ntmps45
  go_wp2_with (fail)
  exact bodyPost_ret (v := .bool false) (by simp [results, Try.results45, go_sem, *]) rfl ⟨rfl, (Later.mk_of (by repeat (first | (with_reducible assumption) | (with_reducible exact Below.refl _ _) | (with_reducible refine Later.after ?_ _) | (with_reducible refine Later.newer ?_ _) | (with_reducible refine Below.drew ?_) | (with_reducible refine Below.setCell ?_ (by first | exact Nat.le_refl _ | exact Nat.le_add_right _ _ | omega | (simp [go_sem]; done) | (simp [go_sem]; omega)) _))))⟩


theorem btw_c (n : Int) (w : World) : Calls Try.prog 45 #[.int .i64 n] w fun e w' => e = .returned (.bool (btw n)) ∧ ∃ x : Later w, w' = x.out := by
  unfold btw
  by_cases h1 : -1073741824 ≤ n
  · by_cases h2 : n ≤ 1073741824
    · simpa [h1, h2] using btw_yes n w h1 h2
    · simpa [h1, h2] using btw_hi n w h1 (by omega)
  · simpa [h1] using btw_lo n w (by omega)


set_option maxRecDepth 100000 in
set_option maxHeartbeats 400000 in
theorem ptNear_1 (p q : Int) (t : Bool) (w : World)
    (c1 : ∀ w', Calls Try.prog 45 #[.int .i64 p] w' fun e w'' => e = .returned (.bool true) ∧ ∃ x : Later w', w'' = x.out)(c2 : ∀ w', Calls Try.prog 45 #[.int .i64 q] w' fun e w'' => e = .returned (.bool t) ∧ ∃ x : Later w', w'' = x.out) :
    Calls Try.prog 20 #[.agg #[.int .i64 p, .int .i64 q]] w fun e w' => e = .returned (.bool t) ∧ ∃ x : Later w, w' = x.out := by
  have Hc1 := Lib.hid c1; clear c1
  have Hc2 := Lib.hid c2; clear c2
  go_enter Try.func20, Try.ntmps20
  go_wp2_with (first | (go_at_call 45; (with_reducible refine (Hc1.out _).mono ?_); rintro e _ ⟨rfl, x, rfl⟩) | (go_at_call 45; (with_reducible refine (Hc2.out _).mono ?_); rintro e _ ⟨rfl, x, rfl⟩))
  exact bodyPost_ret (v := .bool t) (by simp [results, Try.results20, go_sem, *]) rfl ⟨rfl, (Later.mk_of (by repeat (first | (with_reducible assumption) | (with_reducible exact Below.refl _ _) | (with_reducible refine Later.after ?_ _) | (with_reducible refine Later.newer ?_ _) | (with_reducible refine Below.drew ?_) | (with_reducible refine Below.setCell ?_ (by first | exact Nat.le_refl _ | exact Nat.le_add_right _ _ | omega | (simp [go_sem]; done) | (simp [go_sem]; omega)) _))))⟩


set_option maxRecDepth 100000 in
set_option maxHeartbeats 400000 in
theorem ptNear_0 (p q : Int) (w : World)
    (c1 : ∀ w', Calls Try.prog 45 #[.int .i64 p] w' fun e w'' => e = .returned (.bool false) ∧ ∃ x : Later w', w'' = x.out) :
    Calls Try.prog 20 #[.agg #[.int .i64 p, .int .i64 q]] w fun e w' => e = .returned (.bool false) ∧ ∃ x : Later w, w' = x.out := by
  have Hc1 := Lib.hid c1; clear c1
  go_enter Try.func20, Try.ntmps20
  go_wp2_with (first | (go_at_call 45; (with_reducible refine (Hc1.out _).mono ?_); rintro e _ ⟨rfl, x, rfl⟩))
  exact bodyPost_ret (v := .bool false) (by simp [results, Try.results20, go_sem, *]) rfl ⟨rfl, (Later.mk_of (by repeat (first | (with_reducible assumption) | (with_reducible exact Below.refl _ _) | (with_reducible refine Later.after ?_ _) | (with_reducible refine Later.newer ?_ _) | (with_reducible refine Below.drew ?_) | (with_reducible refine Below.setCell ?_ (by first | exact Nat.le_refl _ | exact Nat.le_add_right _ _ | omega | (simp [go_sem]; done) | (simp [go_sem]; omega)) _))))⟩


set_option maxRecDepth 100000 in
set_option maxHeartbeats 400000 in
theorem ptNear_r4 (p q : Int) (w : World)
    (h1 : -1073741824 ≤ p) (h2 : p ≤ 1073741824) (h3 : -1073741824 ≤ q) (h4 : q ≤ 1073741824) :
    Calls Try.prog 10 #[.agg #[.int .i64 p, .int .i64 q]] w fun e w' => e = .returned (.bool true) ∧ ∃ x : Later w, w' = x.out := by
  skip
  go_enter Try.func10, Try.ntmps10
  go_wp2_with (fail)
  exact bodyPost_ret (v := .bool true) (by simp [results, Try.results10, go_sem, *]) rfl ⟨rfl, (Later.mk_of (by repeat (first | (with_reducible assumption) | (with_reducible exact Below.refl _ _) | (with_reducible refine Later.after ?_ _) | (with_reducible refine Later.newer ?_ _) | (with_reducible refine Below.drew ?_) | (with_reducible refine Below.setCell ?_ (by first | exact Nat.le_refl _ | exact Nat.le_add_right _ _ | omega | (simp [go_sem]; done) | (simp [go_sem]; omega)) _))))⟩


set_option maxRecDepth 100000 in
set_option maxHeartbeats 400000 in
theorem ptNear_r0 (p q : Int) (w : World)
    (h1 : p < -1073741824) :
    Calls Try.prog 10 #[.agg #[.int .i64 p, .int .i64 q]] w fun e w' => e = .returned (.bool false) ∧ ∃ x : Later w, w' = x.out := by
  skip
  go_enter Try.func10, Try.ntmps10
  go_wp2_with (fail)
  exact bodyPost_ret (v := .bool false) (by simp [results, Try.results10, go_sem, *]) rfl ⟨rfl, (Later.mk_of (by repeat (first | (with_reducible assumption) | (with_reducible exact Below.refl _ _) | (with_reducible refine Later.after ?_ _) | (with_reducible refine Later.newer ?_ _) | (with_reducible refine Below.drew ?_) | (with_reducible refine Below.setCell ?_ (by first | exact Nat.le_refl _ | exact Nat.le_add_right _ _ | omega | (simp [go_sem]; done) | (simp [go_sem]; omega)) _))))⟩


set_option maxRecDepth 100000 in
set_option maxHeartbeats 400000 in
theorem ptNear_r1 (p q : Int) (w : World)
    (h1 : -1073741824 ≤ p) (h2 : 1073741824 < p) :
    Calls Try.prog 10 #[.agg #[.int .i64 p, .int .i64 q]] w fun e w' => e = .returned (.bool false) ∧ ∃ x : Later w, w' = x.out := by
  skip
  go_enter Try.func10, Try.ntmps10
  go_wp2_with (fail)
  exact bodyPost_ret (v := .bool false) (by simp [results, Try.results10, go_sem, *]) rfl ⟨rfl, (Later.mk_of (by repeat (first | (with_reducible assumption) | (with_reducible exact Below.refl _ _) | (with_reducible refine Later.after ?_ _) | (with_reducible refine Later.newer ?_ _) | (with_reducible refine Below.drew ?_) | (with_reducible refine Below.setCell ?_ (by first | exact Nat.le_refl _ | exact Nat.le_add_right _ _ | omega | (simp [go_sem]; done) | (simp [go_sem]; omega)) _))))⟩


set_option maxRecDepth 100000 in
set_option maxHeartbeats 400000 in
theorem ptNear_r2 (p q : Int) (w : World)
    (h1 : -1073741824 ≤ p) (h2 : p ≤ 1073741824) (h3 : q < -1073741824) :
    Calls Try.prog 10 #[.agg #[.int .i64 p, .int .i64 q]] w fun e w' => e = .returned (.bool false) ∧ ∃ x : Later w, w' = x.out := by
  skip
  go_enter Try.func10, Try.ntmps10
  go_wp2_with (fail)
  exact bodyPost_ret (v := .bool false) (by simp [results, Try.results10, go_sem, *]) rfl ⟨rfl, (Later.mk_of (by repeat (first | (with_reducible assumption) | (with_reducible exact Below.refl _ _) | (with_reducible refine Later.after ?_ _) | (with_reducible refine Later.newer ?_ _) | (with_reducible refine Below.drew ?_) | (with_reducible refine Below.setCell ?_ (by first | exact Nat.le_refl _ | exact Nat.le_add_right _ _ | omega | (simp [go_sem]; done) | (simp [go_sem]; omega)) _))))⟩


set_option maxRecDepth 100000 in
set_option maxHeartbeats 400000 in
theorem ptNear_r3 (p q : Int) (w : World)
    (h1 : -1073741824 ≤ p) (h2 : p ≤ 1073741824) (h3 : -1073741824 ≤ q) (h4 : 1073741824 < q) :
    Calls Try.prog 10 #[.agg #[.int .i64 p, .int .i64 q]] w fun e w' => e = .returned (.bool false) ∧ ∃ x : Later w, w' = x.out := by
  skip
  go_enter Try.func10, Try.ntmps10
  go_wp2_with (fail)
  exact bodyPost_ret (v := .bool false) (by simp [results, Try.results10, go_sem, *]) rfl ⟨rfl, (Later.mk_of (by repeat (first | (with_reducible assumption) | (with_reducible exact Below.refl _ _) | (with_reducible refine Later.after ?_ _) | (with_reducible refine Later.newer ?_ _) | (with_reducible refine Below.drew ?_) | (with_reducible refine Below.setCell ?_ (by first | exact Nat.le_refl _ | exact Nat.le_add_right _ _ | omega | (simp [go_sem]; done) | (simp [go_sem]; omega)) _))))⟩


theorem ptNear_c (p q : Int) (w : World) : Calls Try.prog 20 #[.agg #[.int .i64 p, .int .i64 q]] w fun e w' => e = .returned (.bool (btw p && btw q)) ∧ ∃ x : Later w, w' = x.out := by
  have c1 := btw_c p
  have c2 := btw_c q
  cases h : btw p
  · rw [h] at c1
    simpa using ptNear_0 p q w c1
  · rw [h] at c1
    simpa using ptNear_1 p q (btw q) w c1 c2
theorem ptNear_r (p q : Int) (w : World) : Calls Try.prog 10 #[.agg #[.int .i64 p, .int .i64 q]] w fun e w' => e = .returned (.bool (btw p && btw q)) ∧ ∃ x : Later w, w' = x.out := by
  unfold btw
  by_cases h1 : -1073741824 ≤ p
  · by_cases h2 : p ≤ 1073741824
    · by_cases h3 : -1073741824 ≤ q
      · by_cases h4 : q ≤ 1073741824
        · simpa [h1, h2, h3, h4] using ptNear_r4 p q w h1 h2 h3 h4
        · simpa [h1, h2, h3, h4] using ptNear_r3 p q w h1 h2 h3 (by omega)
      · simpa [h1, h2, h3] using ptNear_r2 p q w h1 h2 (by omega)
    · simpa [h1, h2] using ptNear_r1 p q w h1 (by omega)
  · simpa [h1] using ptNear_r0 p q w (by omega)


set_option maxRecDepth 100000 in
set_option maxHeartbeats 400000 in
theorem ptLen_c0 (p q D r : Int) (w : World)
    (e1 : IntKind.u64.wrap (wrap64 (wrap64 (p * p) + wrap64 (q * q))) = D) (e2 : wrap64 r = r) (c1 : ∀ w', Calls Try.prog 40 #[.int .u64 D] w' fun e w'' => e = .returned (.int .u64 r) ∧ ∃ x : Later w', w'' = x.out) :
    Calls Try.prog 12 #[.agg #[.int .i64 p, .int .i64 q]] w fun e w' => e = .returned (.int .i64 r) ∧ ∃ x : Later w, w' = x.out := by
  have Hc1 := Lib.hid c1; clear c1
  go_enter Try.func12, Try.ntmps12
  go_wp2_with (first | (go_at_call 41; (with_reducible refine (ptSq_0 _ _ _).mono ?_); rintro e _ ⟨rfl, x, rfl⟩) | (go_at_call 40; (with_reducible refine (Hc1.out _).mono ?_); rintro e _ ⟨rfl, x, rfl⟩))
  exact bodyPost_ret (v := .int .i64 r) (by simp [results, Try.results12, go_sem, *]) rfl ⟨rfl, (Later.mk_of (by repeat (first | (with_reducible assumption) | (with_reducible exact Below.refl _ _) | (with_reducible refine Later.after ?_ _) | (with_reducible refine Later.newer ?_ _) | (with_reducible refine Below.drew ?_) | (with_reducible refine Below.setCell ?_ (by first | exact Nat.le_refl _ | exact Nat.le_add_right _ _ | omega | (simp [go_sem]; done) | (simp [go_sem]; omega)) _))))⟩


set_option maxRecDepth 100000 in
set_option maxHeartbeats 400000 in
theorem ptLen_r0 (p q D r : Int) (w : World)
    (e1 : IntKind.u64.wrap (wrap64 (p * p + q * q)) = D) (e2 : wrap64 r = r) (c1 : ∀ w', Calls Try.prog 46 #[.int .u64 D] w' fun e w'' => e = .returned (.int .u64 r) ∧ ∃ x : Later w', w'' = x.out) :
    Calls Try.prog 28 #[.agg #[.int .i64 p, .int .i64 q]] w fun e w' => e = .returned (.int .i64 r) ∧ ∃ x : Later w, w' = x.out := by
  have Hc1 := Lib.hid c1; clear c1
  go_enter Try.func28, Try.ntmps28
  go_wp2_with (first | (go_at_call 26; (with_reducible refine (ptDot_r _ _ _ _ _).mono ?_); rintro e _ ⟨rfl, x, rfl⟩) | (go_at_call 46; (with_reducible refine (Hc1.out _).mono ?_); rintro e _ ⟨rfl, x, rfl⟩))
  exact bodyPost_ret (v := .int .i64 r) (by simp [results, Try.results28, go_sem, *]) rfl ⟨rfl, (Later.mk_of (by repeat (first | (with_reducible assumption) | (with_reducible exact Below.refl _ _) | (with_reducible refine Later.after ?_ _) | (with_reducible refine Later.newer ?_ _) | (with_reducible refine Below.drew ?_) | (with_reducible refine Below.setCell ?_ (by first | exact Nat.le_refl _ | exact Nat.le_add_right _ _ | omega | (simp [go_sem]; done) | (simp [go_sem]; omega)) _))))⟩


set_option maxRecDepth 100000 in
set_option maxHeartbeats 400000 in
theorem scaled_c (p q k n X Y : Int) (w : World)
    (c1 : ∀ w', Calls Try.prog 56 #[.int .i64 p, .int .i64 k, .int .i64 n] w' fun e w'' => e = .returned (.tuple #[.int .i64 X, .int .i64 0]) ∧ ∃ x : Later w', w'' = x.out)(c2 : ∀ w', Calls Try.prog 56 #[.int .i64 q, .int .i64 k, .int .i64 n] w' fun e w'' => e = .returned (.tuple #[.int .i64 Y, .int .i64 0]) ∧ ∃ x : Later w', w'' = x.out) :
    Calls Try.prog 44 #[.agg #[.int .i64 p, .int .i64 q], .int .i64 k, .int .i64 n] w fun e w' => e = .returned (.agg #[.int .i64 X, .int .i64 Y]) ∧ ∃ x : Later w, w' = x.out := by
  have Hc1 := Lib.hid c1; clear c1
  have Hc2 := Lib.hid c2; clear c2
  go_enter Try.func44, Try.ntmps44
  go_wp2_with (first | (go_at_call 56; (with_reducible refine (Hc1.out _).mono ?_); rintro e _ ⟨rfl, x, rfl⟩) | (go_at_call 56; (with_reducible refine (Hc2.out _).mono ?_); rintro e _ ⟨rfl, x, rfl⟩))
  exact bodyPost_ret (v := .agg #[.int .i64 X, .int .i64 Y]) (by simp [results, Try.results44, go_sem, *]) rfl ⟨rfl, (Later.mk_of (by repeat (first | (with_reducible assumption) | (with_reducible exact Below.refl _ _) | (with_reducible refine Later.after ?_ _) | (with_reducible refine Later.newer ?_ _) | (with_reducible refine Below.drew ?_) | (with_reducible refine Below.setCell ?_ (by first | exact Nat.le_refl _ | exact Nat.le_add_right _ _ | omega | (simp [go_sem]; done) | (simp [go_sem]; omega)) _))))⟩


set_option maxRecDepth 100000 in
set_option maxHeartbeats 400000 in
theorem ptNorm_c0 (p q k D : Int) (w : World)
    (e1 : IntKind.u64.wrap (wrap64 (wrap64 (p * p) + wrap64 (q * q))) = D) (c1 : ∀ w', Calls Try.prog 40 #[.int .u64 D] w' fun e w'' => e = .returned (.int .u64 0) ∧ ∃ x : Later w', w'' = x.out) :
    Calls Try.prog 29 #[.agg #[.int .i64 p, .int .i64 q], .int .i64 k] w fun e w' => e = .returned (.agg #[.int .i64 0, .int .i64 0]) ∧ ∃ x : Later w, w' = x.out := by
  have Hc1 := Lib.hid c1; clear c1
  go_enter Try.func29, Try.ntmps29
  go_wp2_with (first | (go_at_call 41; (with_reducible refine (ptSq_0 _ _ _).mono ?_); rintro e _ ⟨rfl, x, rfl⟩) | (go_at_call 40; (with_reducible refine (Hc1.out _).mono ?_); rintro e _ ⟨rfl, x, rfl⟩))
  exact bodyPost_ret (v := .agg #[.int .i64 0, .int .i64 0]) (by simp [results, Try.results29, go_sem, *]) rfl ⟨rfl, (Later.mk_of (by repeat (first | (with_reducible assumption) | (with_reducible exact Below.refl _ _) | (with_reducible refine Later.after ?_ _) | (with_reducible refine Later.newer ?_ _) | (with_reducible refine Below.drew ?_) | (with_reducible refine Below.setCell ?_ (by first | exact Nat.le_refl _ | exact Nat.le_add_right _ _ | omega | (simp [go_sem]; done) | (simp [go_sem]; omega)) _))))⟩


set_option maxRecDepth 100000 in
set_option maxHeartbeats 400000 in
theorem ptNorm_c1 (p q k D r X Y : Int) (w : World)
    (e1 : IntKind.u64.wrap (wrap64 (wrap64 (p * p) + wrap64 (q * q))) = D) (e2 : wrap64 r = r) (e3 : (r == 0) = false) (c1 : ∀ w', Calls Try.prog 40 #[.int .u64 D] w' fun e w'' => e = .returned (.int .u64 r) ∧ ∃ x : Later w', w'' = x.out)(c2 : ∀ w', Calls Try.prog 44 #[.agg #[.int .i64 p, .int .i64 q], .int .i64 k, .int .i64 r] w' fun e w'' => e = .returned (.agg #[.int .i64 X, .int .i64 Y]) ∧ ∃ x : Later w', w'' = x.out) :
    Calls Try.prog 29 #[.agg #[.int .i64 p, .int .i64 q], .int .i64 k] w fun e w' => e = .returned (.agg #[.int .i64 X, .int .i64 Y]) ∧ ∃ x : Later w, w' = x.out := by
  have Hc1 := Lib.hid c1; clear c1
  have Hc2 := Lib.hid c2; clear c2
  go_enter Try.func29, Try.ntmps29
  go_wp2_with (first | (go_at_call 41; (with_reducible refine (ptSq_0 _ _ _).mono ?_); rintro e _ ⟨rfl, x, rfl⟩) | (go_at_call 40; (with_reducible refine (Hc1.out _).mono ?_); rintro e _ ⟨rfl, x, rfl⟩) | (go_at_call 44; (with_reducible refine (Hc2.out _).mono ?_); rintro e _ ⟨rfl, x, rfl⟩))
  exact bodyPost_ret (v := .agg #[.int .i64 X, .int .i64 Y]) (by simp [results, Try.results29, go_sem, *]) rfl ⟨rfl, (Later.mk_of (by repeat (first | (with_reducible assumption) | (with_reducible exact Below.refl _ _) | (with_reducible refine Later.after ?_ _) | (with_reducible refine Later.newer ?_ _) | (with_reducible refine Below.drew ?_) | (with_reducible refine Below.setCell ?_ (by first | exact Nat.le_refl _ | exact Nat.le_add_right _ _ | omega | (simp [go_sem]; done) | (simp [go_sem]; omega)) _))))⟩


set_option maxRecDepth 100000 in
set_option maxHeartbeats 400000 in
theorem ptNorm_r0 (p q k : Int) (w : World)
    (c1 : ∀ w', Calls Try.prog 28 #[.agg #[.int .i64 p, .int .i64 q]] w' fun e w'' => e = .returned (.int .i64 0) ∧ ∃ x : Later w', w'' = x.out) :
    Calls Try.prog 30 #[.agg #[.int .i64 p, .int .i64 q], .int .i64 k] w fun e w' => e = .returned (.agg #[.int .i64 0, .int .i64 0]) ∧ ∃ x : Later w, w' = x.out := by
  have Hc1 := Lib.hid c1; clear c1
  go_enter Try.func30, Try.ntmps30
  go_wp2_with (first | (go_at_call 28; (with_reducible refine (Hc1.out _).mono ?_); rintro e _ ⟨rfl, x, rfl⟩))
  exact bodyPost_ret (v := .agg #[.int .i64 0, .int .i64 0]) (by simp [results, Try.results30, go_sem, *]) rfl ⟨rfl, (Later.mk_of (by repeat (first | (with_reducible assumption) | (with_reducible exact Below.refl _ _) | (with_reducible refine Later.after ?_ _) | (with_reducible refine Later.newer ?_ _) | (with_reducible refine Below.drew ?_) | (with_reducible refine Below.setCell ?_ (by first | exact Nat.le_refl _ | exact Nat.le_add_right _ _ | omega | (simp [go_sem]; done) | (simp [go_sem]; omega)) _))))⟩


set_option maxRecDepth 100000 in
set_option maxHeartbeats 400000 in
theorem ptNorm_r1 (p q k r X Y : Int) (w : World)
    (e3 : (r == 0) = false) (c1 : ∀ w', Calls Try.prog 28 #[.agg #[.int .i64 p, .int .i64 q]] w' fun e w'' => e = .returned (.int .i64 r) ∧ ∃ x : Later w', w'' = x.out)(c2 : ∀ w', Calls Try.prog 47 #[.int .i64 p, .int .i64 k, .int .i64 r] w' fun e w'' => e = .returned (.tuple #[.int .i64 X, .int .i64 0]) ∧ ∃ x : Later w', w'' = x.out)(c3 : ∀ w', Calls Try.prog 47 #[.int .i64 q, .int .i64 k, .int .i64 r] w' fun e w'' => e = .returned (.tuple #[.int .i64 Y, .int .i64 0]) ∧ ∃ x : Later w', w'' = x.out) :
    Calls Try.prog 30 #[.agg #[.int .i64 p, .int .i64 q], .int .i64 k] w fun e w' => e = .returned (.agg #[.int .i64 X, .int .i64 Y]) ∧ ∃ x : Later w, w' = x.out := by
  have Hc1 := Lib.hid c1; clear c1
  have Hc2 := Lib.hid c2; clear c2
  have Hc3 := Lib.hid c3; clear c3
  go_enter Try.func30, Try.ntmps30
  go_wp2_with (first | (go_at_call 28; (with_reducible refine (Hc1.out _).mono ?_); rintro e _ ⟨rfl, x, rfl⟩) | (go_at_call 47; (with_reducible refine (Hc2.out _).mono ?_); rintro e _ ⟨rfl, x, rfl⟩) | (go_at_call 47; (with_reducible refine (Hc3.out _).mono ?_); rintro e _ ⟨rfl, x, rfl⟩))
  exact bodyPost_ret (v := .agg #[.int .i64 X, .int .i64 Y]) (by simp [results, Try.results30, go_sem, *]) rfl ⟨rfl, (Later.mk_of (by repeat (first | (with_reducible assumption) | (with_reducible exact Below.refl _ _) | (with_reducible refine Later.after ?_ _) | (with_reducible refine Later.newer ?_ _) | (with_reducible refine Below.drew ?_) | (with_reducible refine Below.setCell ?_ (by first | exact Nat.le_refl _ | exact Nat.le_add_right _ _ | omega | (simp [go_sem]; done) | (simp [go_sem]; omega)) _))))⟩


set_option maxRecDepth 100000 in
set_option maxHeartbeats 400000 in
theorem ptAlong_c0 (p q z u k n : Int) (w : World)
    (h : n < 1) :
    Calls Try.prog 19 #[.agg #[.int .i64 p, .int .i64 q], .agg #[.int .i64 z, .int .i64 u], .int .i64 k, .int .i64 n] w fun e w' => e = .returned (.agg #[.int .i64 p, .int .i64 q]) ∧ ∃ x : Later w, w' = x.out := by
  skip
  go_enter Try.func19, Try.ntmps19
  go_wp2_with (fail)
  exact bodyPost_ret (v := .agg #[.int .i64 p, .int .i64 q]) (by simp [results, Try.results19, go_sem, *]) rfl ⟨rfl, (Later.mk_of (by repeat (first | (with_reducible assumption) | (with_reducible exact Below.refl _ _) | (with_reducible refine Later.after ?_ _) | (with_reducible refine Later.newer ?_ _) | (with_reducible refine Below.drew ?_) | (with_reducible refine Below.setCell ?_ (by first | exact Nat.le_refl _ | exact Nat.le_add_right _ _ | omega | (simp [go_sem]; done) | (simp [go_sem]; omega)) _))))⟩


set_option maxRecDepth 100000 in
set_option maxHeartbeats 400000 in
theorem ptAlong_r0 (p q z u k n : Int) (w : World)
    (h : n < 1) :
    Calls Try.prog 31 #[.agg #[.int .i64 p, .int .i64 q], .agg #[.int .i64 z, .int .i64 u], .int .i64 k, .int .i64 n] w fun e w' => e = .returned (.agg #[.int .i64 p, .int .i64 q]) ∧ ∃ x : Later w, w' = x.out := by
  skip
  go_enter Try.func31, Try.ntmps31
  go_wp2_with (fail)
  exact bodyPost_ret (v := .agg #[.int .i64 p, .int .i64 q]) (by simp [results, Try.results31, go_sem, *]) rfl ⟨rfl, (Later.mk_of (by repeat (first | (with_reducible assumption) | (with_reducible exact Below.refl _ _) | (with_reducible refine Later.after ?_ _) | (with_reducible refine Later.newer ?_ _) | (with_reducible refine Below.drew ?_) | (with_reducible refine Below.setCell ?_ (by first | exact Nat.le_refl _ | exact Nat.le_add_right _ _ | omega | (simp [go_sem]; done) | (simp [go_sem]; omega)) _))))⟩

end Go.Proofs.Ytdlemjecocmbgaa
