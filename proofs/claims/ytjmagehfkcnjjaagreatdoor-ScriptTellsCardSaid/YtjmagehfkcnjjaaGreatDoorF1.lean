/-
  The contract of fix's division, rounded down or to the nearest.
-/
import Derived.Test.YtjmagehfkcnjjaaGreatDoorKA
namespace Go.Proofs.YtjmagehfkcnjjaaGreatDoor
set_option linter.unusedVariables false
open Go.RowKit

/-- a quotient to the nearest one, halves up -/
def nrst (n c : Int) : Int := if c - n % c ≤ n % c then n / c + 1 else n / c
theorem nrst_R128 (n c : Int) (h : R128 n) (hc : 0 < c) : R128 (nrst n c) := by
  have m0 := Int.emod_nonneg n (show c ≠ 0 by omega)
  have m1 := Int.emod_lt_of_pos n hc
  have e := Int.mul_ediv_add_emod n c
  unfold R128 at *
  unfold nrst
  have b1 : n / c ≤ 170141183460469231731687303715884105727 := by
    refine Int.le_of_lt_add_one (Int.ediv_lt_of_lt_mul hc ?_)
    have := Int.mul_le_mul_of_nonneg_left (show (1 : Int) ≤ c by omega) (show (0 : Int) ≤ 170141183460469231731687303715884105728 by omega)
    omega
  have b0 : -170141183460469231731687303715884105728 ≤ n / c := by
    refine Int.le_ediv_of_mul_le hc ?_
    have := Int.mul_le_mul_of_nonneg_left (show (1 : Int) ≤ c by omega) (show (0 : Int) ≤ 170141183460469231731687303715884105728 by omega)
    omega
  split
  · have c2 : 2 ≤ c := by omega
    refine ⟨by omega, ?_⟩
    have : n / c < 170141183460469231731687303715884105727 := by
      refine Int.ediv_lt_of_lt_mul hc ?_
      have := Int.mul_le_mul_of_nonneg_left c2 (show (0 : Int) ≤ 170141183460469231731687303715884105727 by omega)
      omega
    omega
  · exact ⟨b0, by omega⟩


set_option maxRecDepth 100000 in
set_option maxHeartbeats 600000 in
theorem divided_false_true (a b c h l h1 l1 h2 l2 t v : Int) (w : World) (t0 : 0 ≤ t) (t1 : t < c) (c9 : c ≤ 9223372036854775807)
    (c1 : ∀ w', Calls Tryz.prog 45 #[.int .i64 a, .int .i64 b] w' fun e w'' => e = .returned (.agg #[.int .i64 h, .int .u64 l]) ∧ ∃ x : Later w', w'' = x.out)
    (c2 : ∀ w', Calls Tryz.prog 44 #[.agg #[.int .i64 h, .int .u64 l], .int .i64 c] w' fun e w'' => e = .returned (.tuple #[.agg #[.int .i64 h1, .int .u64 l1], .int .i64 t, .int .i64 0]) ∧ ∃ x : Later w', w'' = x.out)
    
    (c5 : ∀ w', Calls Tryz.prog 48 #[.agg #[.int .i64 h1, .int .u64 l1]] w' fun e w'' => e = .returned (.tuple #[.int .i64 v, .bool true]) ∧ ∃ x : Later w', w'' = x.out) :
    Calls Tryz.prog 25 #[.int .i64 a, .int .i64 b, .int .i64 c, .bool false] w fun e w' => e = .returned (.tuple #[.int .i64 v, .int .i64 0]) ∧ ∃ x : Later w, w' = x.out := by
  have Hc1 := Lib.hid c1; clear c1
  have Hc2 := Lib.hid c2; clear c2
  have Hc5 := Lib.hid c5; clear c5
  go_enter Tryz.func25, Tryz.ntmps25
  go_wp2_with (first | (go_at_call 45; (with_reducible refine (Hc1.out _).mono ?_); rintro e _ ⟨rfl, x, rfl⟩) | (go_at_call 44; (with_reducible refine (Hc2.out _).mono ?_); rintro e _ ⟨rfl, x, rfl⟩) | (go_at_call 48; (with_reducible refine (Hc5.out _).mono ?_); rintro e _ ⟨rfl, x, rfl⟩))
  exact bodyPost_ret (v := .tuple #[.int .i64 v, .int .i64 0]) (by simp [results, Tryz.results25, go_sem, *]) rfl ⟨rfl, (Later.mk_of (by repeat (first | (with_reducible assumption) | (with_reducible exact Below.refl _ _) | (with_reducible refine Later.after ?_ _) | (with_reducible refine Later.newer ?_ _) | (with_reducible refine Below.drew ?_) | (with_reducible refine Below.setCell ?_ (by first | exact Nat.le_refl _ | exact Nat.le_add_right _ _ | omega | (simp [go_sem]; done) | (simp [go_sem]; omega)) _))))⟩


set_option maxRecDepth 100000 in
set_option maxHeartbeats 600000 in
theorem divided_false_false (a b c h l h1 l1 h2 l2 t v : Int) (w : World) (t0 : 0 ≤ t) (t1 : t < c) (c9 : c ≤ 9223372036854775807)
    (c1 : ∀ w', Calls Tryz.prog 45 #[.int .i64 a, .int .i64 b] w' fun e w'' => e = .returned (.agg #[.int .i64 h, .int .u64 l]) ∧ ∃ x : Later w', w'' = x.out)
    (c2 : ∀ w', Calls Tryz.prog 44 #[.agg #[.int .i64 h, .int .u64 l], .int .i64 c] w' fun e w'' => e = .returned (.tuple #[.agg #[.int .i64 h1, .int .u64 l1], .int .i64 t, .int .i64 0]) ∧ ∃ x : Later w', w'' = x.out)
    
    (c5 : ∀ w', Calls Tryz.prog 48 #[.agg #[.int .i64 h1, .int .u64 l1]] w' fun e w'' => e = .returned (.tuple #[.int .i64 v, .bool false]) ∧ ∃ x : Later w', w'' = x.out) :
    Calls Tryz.prog 25 #[.int .i64 a, .int .i64 b, .int .i64 c, .bool false] w fun e w' => e = .returned (.tuple #[.int .i64 0, .int .i64 2]) ∧ ∃ x : Later w, w' = x.out := by
  have Hc1 := Lib.hid c1; clear c1
  have Hc2 := Lib.hid c2; clear c2
  have Hc5 := Lib.hid c5; clear c5
  go_enter Tryz.func25, Tryz.ntmps25
  go_wp2_with (first | (go_at_call 45; (with_reducible refine (Hc1.out _).mono ?_); rintro e _ ⟨rfl, x, rfl⟩) | (go_at_call 44; (with_reducible refine (Hc2.out _).mono ?_); rintro e _ ⟨rfl, x, rfl⟩) | (go_at_call 48; (with_reducible refine (Hc5.out _).mono ?_); rintro e _ ⟨rfl, x, rfl⟩))
  exact bodyPost_ret (v := .tuple #[.int .i64 0, .int .i64 2]) (by simp [results, Tryz.results25, go_sem, *]) rfl ⟨rfl, (Later.mk_of (by repeat (first | (with_reducible assumption) | (with_reducible exact Below.refl _ _) | (with_reducible refine Later.after ?_ _) | (with_reducible refine Later.newer ?_ _) | (with_reducible refine Below.drew ?_) | (with_reducible refine Below.setCell ?_ (by first | exact Nat.le_refl _ | exact Nat.le_add_right _ _ | omega | (simp [go_sem]; done) | (simp [go_sem]; omega)) _))))⟩


set_option maxRecDepth 100000 in
set_option maxHeartbeats 600000 in
theorem divided_true_dn_true (a b c h l h1 l1 h2 l2 t v : Int) (w : World) (t0 : 0 ≤ t) (t1 : t < c) (c9 : c ≤ 9223372036854775807) (g : t < c - t)
    (c1 : ∀ w', Calls Tryz.prog 45 #[.int .i64 a, .int .i64 b] w' fun e w'' => e = .returned (.agg #[.int .i64 h, .int .u64 l]) ∧ ∃ x : Later w', w'' = x.out)
    (c2 : ∀ w', Calls Tryz.prog 44 #[.agg #[.int .i64 h, .int .u64 l], .int .i64 c] w' fun e w'' => e = .returned (.tuple #[.agg #[.int .i64 h1, .int .u64 l1], .int .i64 t, .int .i64 0]) ∧ ∃ x : Later w', w'' = x.out)
    
    (c5 : ∀ w', Calls Tryz.prog 48 #[.agg #[.int .i64 h1, .int .u64 l1]] w' fun e w'' => e = .returned (.tuple #[.int .i64 v, .bool true]) ∧ ∃ x : Later w', w'' = x.out) :
    Calls Tryz.prog 25 #[.int .i64 a, .int .i64 b, .int .i64 c, .bool true] w fun e w' => e = .returned (.tuple #[.int .i64 v, .int .i64 0]) ∧ ∃ x : Later w, w' = x.out := by
  have Hc1 := Lib.hid c1; clear c1
  have Hc2 := Lib.hid c2; clear c2
  have Hc5 := Lib.hid c5; clear c5
  go_enter Tryz.func25, Tryz.ntmps25
  go_wp2_with (first | (go_at_call 45; (with_reducible refine (Hc1.out _).mono ?_); rintro e _ ⟨rfl, x, rfl⟩) | (go_at_call 44; (with_reducible refine (Hc2.out _).mono ?_); rintro e _ ⟨rfl, x, rfl⟩) | (go_at_call 48; (with_reducible refine (Hc5.out _).mono ?_); rintro e _ ⟨rfl, x, rfl⟩))
  exact bodyPost_ret (v := .tuple #[.int .i64 v, .int .i64 0]) (by simp [results, Tryz.results25, go_sem, *]) rfl ⟨rfl, (Later.mk_of (by repeat (first | (with_reducible assumption) | (with_reducible exact Below.refl _ _) | (with_reducible refine Later.after ?_ _) | (with_reducible refine Later.newer ?_ _) | (with_reducible refine Below.drew ?_) | (with_reducible refine Below.setCell ?_ (by first | exact Nat.le_refl _ | exact Nat.le_add_right _ _ | omega | (simp [go_sem]; done) | (simp [go_sem]; omega)) _))))⟩


set_option maxRecDepth 100000 in
set_option maxHeartbeats 600000 in
theorem divided_true_dn_false (a b c h l h1 l1 h2 l2 t v : Int) (w : World) (t0 : 0 ≤ t) (t1 : t < c) (c9 : c ≤ 9223372036854775807) (g : t < c - t)
    (c1 : ∀ w', Calls Tryz.prog 45 #[.int .i64 a, .int .i64 b] w' fun e w'' => e = .returned (.agg #[.int .i64 h, .int .u64 l]) ∧ ∃ x : Later w', w'' = x.out)
    (c2 : ∀ w', Calls Tryz.prog 44 #[.agg #[.int .i64 h, .int .u64 l], .int .i64 c] w' fun e w'' => e = .returned (.tuple #[.agg #[.int .i64 h1, .int .u64 l1], .int .i64 t, .int .i64 0]) ∧ ∃ x : Later w', w'' = x.out)
    
    (c5 : ∀ w', Calls Tryz.prog 48 #[.agg #[.int .i64 h1, .int .u64 l1]] w' fun e w'' => e = .returned (.tuple #[.int .i64 v, .bool false]) ∧ ∃ x : Later w', w'' = x.out) :
    Calls Tryz.prog 25 #[.int .i64 a, .int .i64 b, .int .i64 c, .bool true] w fun e w' => e = .returned (.tuple #[.int .i64 0, .int .i64 2]) ∧ ∃ x : Later w, w' = x.out := by
  have Hc1 := Lib.hid c1; clear c1
  have Hc2 := Lib.hid c2; clear c2
  have Hc5 := Lib.hid c5; clear c5
  go_enter Tryz.func25, Tryz.ntmps25
  go_wp2_with (first | (go_at_call 45; (with_reducible refine (Hc1.out _).mono ?_); rintro e _ ⟨rfl, x, rfl⟩) | (go_at_call 44; (with_reducible refine (Hc2.out _).mono ?_); rintro e _ ⟨rfl, x, rfl⟩) | (go_at_call 48; (with_reducible refine (Hc5.out _).mono ?_); rintro e _ ⟨rfl, x, rfl⟩))
  exact bodyPost_ret (v := .tuple #[.int .i64 0, .int .i64 2]) (by simp [results, Tryz.results25, go_sem, *]) rfl ⟨rfl, (Later.mk_of (by repeat (first | (with_reducible assumption) | (with_reducible exact Below.refl _ _) | (with_reducible refine Later.after ?_ _) | (with_reducible refine Later.newer ?_ _) | (with_reducible refine Below.drew ?_) | (with_reducible refine Below.setCell ?_ (by first | exact Nat.le_refl _ | exact Nat.le_add_right _ _ | omega | (simp [go_sem]; done) | (simp [go_sem]; omega)) _))))⟩


set_option maxRecDepth 100000 in
set_option maxHeartbeats 600000 in
theorem divided_true_up_true (a b c h l h1 l1 h2 l2 t v : Int) (w : World) (t0 : 0 ≤ t) (t1 : t < c) (c9 : c ≤ 9223372036854775807) (g : c - t ≤ t)
    (c1 : ∀ w', Calls Tryz.prog 45 #[.int .i64 a, .int .i64 b] w' fun e w'' => e = .returned (.agg #[.int .i64 h, .int .u64 l]) ∧ ∃ x : Later w', w'' = x.out)
    (c2 : ∀ w', Calls Tryz.prog 44 #[.agg #[.int .i64 h, .int .u64 l], .int .i64 c] w' fun e w'' => e = .returned (.tuple #[.agg #[.int .i64 h1, .int .u64 l1], .int .i64 t, .int .i64 0]) ∧ ∃ x : Later w', w'' = x.out)
    (c3 : ∀ w', Calls Tryz.prog 47 #[.int .i64 1] w' fun e w'' => e = .returned (.agg #[.int .i64 0, .int .u64 1]) ∧ ∃ x : Later w', w'' = x.out)
    (c4 : ∀ w', Calls Tryz.prog 46 #[.agg #[.int .i64 h1, .int .u64 l1], .agg #[.int .i64 0, .int .u64 1]] w' fun e w'' => e = .returned (.agg #[.int .i64 h2, .int .u64 l2]) ∧ ∃ x : Later w', w'' = x.out)
    (c5 : ∀ w', Calls Tryz.prog 48 #[.agg #[.int .i64 h2, .int .u64 l2]] w' fun e w'' => e = .returned (.tuple #[.int .i64 v, .bool true]) ∧ ∃ x : Later w', w'' = x.out) :
    Calls Tryz.prog 25 #[.int .i64 a, .int .i64 b, .int .i64 c, .bool true] w fun e w' => e = .returned (.tuple #[.int .i64 v, .int .i64 0]) ∧ ∃ x : Later w, w' = x.out := by
  have Hc1 := Lib.hid c1; clear c1
  have Hc2 := Lib.hid c2; clear c2
  have Hc3 := Lib.hid c3; clear c3
  have Hc4 := Lib.hid c4; clear c4
  have Hc5 := Lib.hid c5; clear c5
  go_enter Tryz.func25, Tryz.ntmps25
  go_wp2_with (first | (go_at_call 45; (with_reducible refine (Hc1.out _).mono ?_); rintro e _ ⟨rfl, x1, rfl⟩) | (go_at_call 44; (with_reducible refine (Hc2.out _).mono ?_); rintro e _ ⟨rfl, x2, rfl⟩))
  refine wp_region_later_tail 3 (by kernel_rfl) (by kernel_rfl) ?_
  simp only [List.take_succ_cons, List.take_zero, List.drop_succ_cons, List.drop_zero]
  repeat (go_big_quiet_step ((first | (go_at_call 47; with_reducible exact Later.call _ (Hc3.out _)) | (go_at_call 46; with_reducible exact Later.call _ (Hc4.out _)))))
  refine wpQuiet_nil ?_
  intro x
  have g8 : x2.out.heap.size < x.out.heap.size := Later.lt x _ (by simp [go_sem])
  go_wp2_with (first | (go_at_call 48; (with_reducible refine (Hc5.out _).mono ?_); rintro e _ ⟨rfl, y, rfl⟩))
  exact bodyPost_ret (v := .tuple #[.int .i64 v, .int .i64 0]) (by simp [results, Tryz.results25, go_sem, *]) rfl ⟨rfl, (Later.mk_of (by repeat (first | (with_reducible assumption) | (with_reducible exact Below.refl _ _) | (with_reducible refine Later.after ?_ _) | (with_reducible refine Later.newer ?_ _) | (with_reducible refine Below.drew ?_) | (with_reducible refine Below.setCell ?_ (by first | exact Nat.le_refl _ | exact Nat.le_add_right _ _ | omega | (simp [go_sem]; done) | (simp [go_sem]; omega)) _))))⟩


set_option maxRecDepth 100000 in
set_option maxHeartbeats 600000 in
theorem divided_true_up_false (a b c h l h1 l1 h2 l2 t v : Int) (w : World) (t0 : 0 ≤ t) (t1 : t < c) (c9 : c ≤ 9223372036854775807) (g : c - t ≤ t)
    (c1 : ∀ w', Calls Tryz.prog 45 #[.int .i64 a, .int .i64 b] w' fun e w'' => e = .returned (.agg #[.int .i64 h, .int .u64 l]) ∧ ∃ x : Later w', w'' = x.out)
    (c2 : ∀ w', Calls Tryz.prog 44 #[.agg #[.int .i64 h, .int .u64 l], .int .i64 c] w' fun e w'' => e = .returned (.tuple #[.agg #[.int .i64 h1, .int .u64 l1], .int .i64 t, .int .i64 0]) ∧ ∃ x : Later w', w'' = x.out)
    (c3 : ∀ w', Calls Tryz.prog 47 #[.int .i64 1] w' fun e w'' => e = .returned (.agg #[.int .i64 0, .int .u64 1]) ∧ ∃ x : Later w', w'' = x.out)
    (c4 : ∀ w', Calls Tryz.prog 46 #[.agg #[.int .i64 h1, .int .u64 l1], .agg #[.int .i64 0, .int .u64 1]] w' fun e w'' => e = .returned (.agg #[.int .i64 h2, .int .u64 l2]) ∧ ∃ x : Later w', w'' = x.out)
    (c5 : ∀ w', Calls Tryz.prog 48 #[.agg #[.int .i64 h2, .int .u64 l2]] w' fun e w'' => e = .returned (.tuple #[.int .i64 v, .bool false]) ∧ ∃ x : Later w', w'' = x.out) :
    Calls Tryz.prog 25 #[.int .i64 a, .int .i64 b, .int .i64 c, .bool true] w fun e w' => e = .returned (.tuple #[.int .i64 0, .int .i64 2]) ∧ ∃ x : Later w, w' = x.out := by
  have Hc1 := Lib.hid c1; clear c1
  have Hc2 := Lib.hid c2; clear c2
  have Hc3 := Lib.hid c3; clear c3
  have Hc4 := Lib.hid c4; clear c4
  have Hc5 := Lib.hid c5; clear c5
  go_enter Tryz.func25, Tryz.ntmps25
  go_wp2_with (first | (go_at_call 45; (with_reducible refine (Hc1.out _).mono ?_); rintro e _ ⟨rfl, x1, rfl⟩) | (go_at_call 44; (with_reducible refine (Hc2.out _).mono ?_); rintro e _ ⟨rfl, x2, rfl⟩))
  refine wp_region_later_tail 3 (by kernel_rfl) (by kernel_rfl) ?_
  simp only [List.take_succ_cons, List.take_zero, List.drop_succ_cons, List.drop_zero]
  repeat (go_big_quiet_step ((first | (go_at_call 47; with_reducible exact Later.call _ (Hc3.out _)) | (go_at_call 46; with_reducible exact Later.call _ (Hc4.out _)))))
  refine wpQuiet_nil ?_
  intro x
  have g8 : x2.out.heap.size < x.out.heap.size := Later.lt x _ (by simp [go_sem])
  go_wp2_with (first | (go_at_call 48; (with_reducible refine (Hc5.out _).mono ?_); rintro e _ ⟨rfl, y, rfl⟩))
  exact bodyPost_ret (v := .tuple #[.int .i64 0, .int .i64 2]) (by simp [results, Tryz.results25, go_sem, *]) rfl ⟨rfl, (Later.mk_of (by repeat (first | (with_reducible assumption) | (with_reducible exact Below.refl _ _) | (with_reducible refine Later.after ?_ _) | (with_reducible refine Later.newer ?_ _) | (with_reducible refine Below.drew ?_) | (with_reducible refine Below.setCell ?_ (by first | exact Nat.le_refl _ | exact Nat.le_add_right _ _ | omega | (simp [go_sem]; done) | (simp [go_sem]; omega)) _))))⟩


set_option maxHeartbeats 400000 in
theorem narrow3_true (h l v : Int) (w : World) (c : ∀ w', Calls Tryz.prog 52 #[.agg #[.int .i64 h, .int .u64 l]] w' fun e w'' => e = .returned (.tuple #[.int .i64 v, .bool true]) ∧ ∃ x : Later w', w'' = x.out) :
    Calls Tryz.prog 28 #[.agg #[.int .i64 h, .int .u64 l]] w fun e w' => e = .returned (.tuple #[.int .i64 v, .int .i64 0]) ∧ ∃ x : Later w, w' = x.out := by
  have Hc := Lib.hid c; clear c
  go_enter Tryz.func28, Tryz.ntmps28
  go_wp2_with (first | (go_at_call 52; (with_reducible refine (Hc.out _).mono ?_); rintro e _ ⟨rfl, x, rfl⟩))
  exact bodyPost_ret (v := .tuple #[.int .i64 v, .int .i64 0]) (by simp [results, Tryz.results28, go_sem, *]) rfl ⟨rfl, (Later.mk_of (by repeat (first | (with_reducible assumption) | (with_reducible exact Below.refl _ _) | (with_reducible refine Later.after ?_ _) | (with_reducible refine Later.newer ?_ _) | (with_reducible refine Below.drew ?_) | (with_reducible refine Below.setCell ?_ (by first | exact Nat.le_refl _ | exact Nat.le_add_right _ _ | omega | (simp [go_sem]; done) | (simp [go_sem]; omega)) _))))⟩


set_option maxHeartbeats 400000 in
theorem narrow3_false (h l v : Int) (w : World) (c : ∀ w', Calls Tryz.prog 52 #[.agg #[.int .i64 h, .int .u64 l]] w' fun e w'' => e = .returned (.tuple #[.int .i64 v, .bool false]) ∧ ∃ x : Later w', w'' = x.out) :
    Calls Tryz.prog 28 #[.agg #[.int .i64 h, .int .u64 l]] w fun e w' => e = .returned (.tuple #[.int .i64 0, .int .i64 2]) ∧ ∃ x : Later w, w' = x.out := by
  have Hc := Lib.hid c; clear c
  go_enter Tryz.func28, Tryz.ntmps28
  go_wp2_with (first | (go_at_call 52; (with_reducible refine (Hc.out _).mono ?_); rintro e _ ⟨rfl, x, rfl⟩))
  exact bodyPost_ret (v := .tuple #[.int .i64 0, .int .i64 2]) (by simp [results, Tryz.results28, go_sem, *]) rfl ⟨rfl, (Later.mk_of (by repeat (first | (with_reducible assumption) | (with_reducible exact Below.refl _ _) | (with_reducible refine Later.after ?_ _) | (with_reducible refine Later.newer ?_ _) | (with_reducible refine Below.drew ?_) | (with_reducible refine Below.setCell ?_ (by first | exact Nat.le_refl _ | exact Nat.le_add_right _ _ | omega | (simp [go_sem]; done) | (simp [go_sem]; omega)) _))))⟩


set_option maxRecDepth 100000 in
set_option maxHeartbeats 600000 in
theorem near3_dn (a b c h l h1 l1 h2 l2 t v er : Int) (w : World) (t0 : 0 ≤ t) (t1 : t < c) (c9 : c ≤ 9223372036854775807) (g : t < c - t)
    (c1 : ∀ w', Calls Tryz.prog 27 #[.int .i64 a, .int .i64 b] w' fun e w'' => e = .returned (.agg #[.int .i64 h, .int .u64 l]) ∧ ∃ x : Later w', w'' = x.out)
    (c2 : ∀ w', Calls Tryz.prog 26 #[.agg #[.int .i64 h, .int .u64 l], .int .i64 c] w' fun e w'' => e = .returned (.tuple #[.agg #[.int .i64 h1, .int .u64 l1], .int .i64 t, .int .i64 0]) ∧ ∃ x : Later w', w'' = x.out)
    
    (c5 : ∀ w', Calls Tryz.prog 28 #[.agg #[.int .i64 h1, .int .u64 l1]] w' fun e w'' => e = .returned (.tuple #[.int .i64 v, .int .i64 er]) ∧ ∃ x : Later w', w'' = x.out) :
    Calls Tryz.prog 15 #[.int .i64 a, .int .i64 b, .int .i64 c] w fun e w' => e = .returned (.tuple #[.int .i64 v, .int .i64 er]) ∧ ∃ x : Later w, w' = x.out := by
  have Hc1 := Lib.hid c1; clear c1
  have Hc2 := Lib.hid c2; clear c2
  have Hc5 := Lib.hid c5; clear c5
  go_enter Tryz.func15, Tryz.ntmps15
  go_wp2_with (first | (go_at_call 27; (with_reducible refine (Hc1.out _).mono ?_); rintro e _ ⟨rfl, x, rfl⟩) | (go_at_call 26; (with_reducible refine (Hc2.out _).mono ?_); rintro e _ ⟨rfl, x, rfl⟩) | (go_at_call 28; (with_reducible refine (Hc5.out _).mono ?_); rintro e _ ⟨rfl, x, rfl⟩))
  exact bodyPost_ret (v := .tuple #[.int .i64 v, .int .i64 er]) (by simp [results, Tryz.results15, go_sem, *]) rfl ⟨rfl, (Later.mk_of (by repeat (first | (with_reducible assumption) | (with_reducible exact Below.refl _ _) | (with_reducible refine Later.after ?_ _) | (with_reducible refine Later.newer ?_ _) | (with_reducible refine Below.drew ?_) | (with_reducible refine Below.setCell ?_ (by first | exact Nat.le_refl _ | exact Nat.le_add_right _ _ | omega | (simp [go_sem]; done) | (simp [go_sem]; omega)) _))))⟩


set_option maxRecDepth 100000 in
set_option maxHeartbeats 600000 in
theorem near3_up (a b c h l h1 l1 h2 l2 t v er : Int) (w : World) (t0 : 0 ≤ t) (t1 : t < c) (c9 : c ≤ 9223372036854775807) (g : c - t ≤ t)
    (c1 : ∀ w', Calls Tryz.prog 27 #[.int .i64 a, .int .i64 b] w' fun e w'' => e = .returned (.agg #[.int .i64 h, .int .u64 l]) ∧ ∃ x : Later w', w'' = x.out)
    (c2 : ∀ w', Calls Tryz.prog 26 #[.agg #[.int .i64 h, .int .u64 l], .int .i64 c] w' fun e w'' => e = .returned (.tuple #[.agg #[.int .i64 h1, .int .u64 l1], .int .i64 t, .int .i64 0]) ∧ ∃ x : Later w', w'' = x.out)
    (c3 : ∀ w', Calls Tryz.prog 30 #[.int .i64 1] w' fun e w'' => e = .returned (.agg #[.int .i64 0, .int .u64 1]) ∧ ∃ x : Later w', w'' = x.out)
    (c4 : ∀ w', Calls Tryz.prog 29 #[.agg #[.int .i64 h1, .int .u64 l1], .agg #[.int .i64 0, .int .u64 1]] w' fun e w'' => e = .returned (.agg #[.int .i64 h2, .int .u64 l2]) ∧ ∃ x : Later w', w'' = x.out)
    (c5 : ∀ w', Calls Tryz.prog 28 #[.agg #[.int .i64 h2, .int .u64 l2]] w' fun e w'' => e = .returned (.tuple #[.int .i64 v, .int .i64 er]) ∧ ∃ x : Later w', w'' = x.out) :
    Calls Tryz.prog 15 #[.int .i64 a, .int .i64 b, .int .i64 c] w fun e w' => e = .returned (.tuple #[.int .i64 v, .int .i64 er]) ∧ ∃ x : Later w, w' = x.out := by
  have Hc1 := Lib.hid c1; clear c1
  have Hc2 := Lib.hid c2; clear c2
  have Hc3 := Lib.hid c3; clear c3
  have Hc4 := Lib.hid c4; clear c4
  have Hc5 := Lib.hid c5; clear c5
  go_enter Tryz.func15, Tryz.ntmps15
  go_wp2_with (first | (go_at_call 27; (with_reducible refine (Hc1.out _).mono ?_); rintro e _ ⟨rfl, x1, rfl⟩) | (go_at_call 26; (with_reducible refine (Hc2.out _).mono ?_); rintro e _ ⟨rfl, x2, rfl⟩))
  refine wp_region_later_tail 3 (by kernel_rfl) (by kernel_rfl) ?_
  simp only [List.take_succ_cons, List.take_zero, List.drop_succ_cons, List.drop_zero]
  repeat (go_big_quiet_step ((first | (go_at_call 30; with_reducible exact Later.call _ (Hc3.out _)) | (go_at_call 29; with_reducible exact Later.call _ (Hc4.out _)))))
  refine wpQuiet_nil ?_
  intro x
  have g8 : x2.out.heap.size < x.out.heap.size := Later.lt x _ (by simp [go_sem])
  go_wp2_with (first | (go_at_call 28; (with_reducible refine (Hc5.out _).mono ?_); rintro e _ ⟨rfl, y, rfl⟩))
  exact bodyPost_ret (v := .tuple #[.int .i64 v, .int .i64 er]) (by simp [results, Tryz.results15, go_sem, *]) rfl ⟨rfl, (Later.mk_of (by repeat (first | (with_reducible assumption) | (with_reducible exact Below.refl _ _) | (with_reducible refine Later.after ?_ _) | (with_reducible refine Later.newer ?_ _) | (with_reducible refine Below.drew ?_) | (with_reducible refine Below.setCell ?_ (by first | exact Nat.le_refl _ | exact Nat.le_add_right _ _ | omega | (simp [go_sem]; done) | (simp [go_sem]; omega)) _))))⟩


theorem one_W : hiW 1 = 0 ∧ loW 1 = 1 := by unfold hiW loW; omega
theorem mul_R128 (a b : Int) (ra : R64 a) (rb : R64 b) : R128 (a * b) := by
  unfold R64 at ra rb
  have p1 := Int.mul_le_mul_of_natAbs_le (x := a) (y := b) (s := 9223372036854775808) (t := 9223372036854775808) (by omega) (by omega)
  have p2 := Int.mul_le_mul_of_natAbs_le (x := -a) (y := b) (s := 9223372036854775808) (t := 9223372036854775808) (by omega) (by omega)
  rw [Int.neg_mul] at p2
  unfold R128; omega

set_option maxHeartbeats 400000 in
theorem divided_near (a b c : Int) (w : World) (ra : R64 a) (rb : R64 b) (hc : 0 < c) (c9 : c ≤ 9223372036854775807) (hq : R64 (nrst (a * b) c)) :
    Calls Tryz.prog 25 #[.int .i64 a, .int .i64 b, .int .i64 c, .bool true] w fun e w' => e = .returned (.tuple #[.int .i64 (nrst (a * b) c), .int .i64 0]) ∧ ∃ x : Later w, w' = x.out := by
  have m0 := Int.emod_nonneg (a * b) (show c ≠ 0 by omega)
  have m1 := Int.emod_lt_of_pos (a * b) hc
  have rn := mul_R128 a b ra rb
  by_cases g : c - a * b % c ≤ a * b % c
  · have e : nrst (a * b) c = a * b / c + 1 := by unfold nrst; rw [if_pos g]
    rw [e] at hq ⊢
    have c3 := fun v => of_c 1 v (by unfold R64; omega)
    have c4 := fun v => add_c (a * b / c) 1 v
    rw [one_W.1, one_W.2] at c3 c4
    exact divided_true_up_true a b c _ _ _ _ _ _ (a * b % c) _ w m0 m1 c9 g (fun v => mul_c a b v ra rb) (fun v => div_c _ c v rn hc c9) c3 c4 (fun v => narrow_yes _ v hq)
  · have e : nrst (a * b) c = a * b / c := by unfold nrst; rw [if_neg g]
    rw [e] at hq ⊢
    exact divided_true_dn_true a b c _ _ _ _ 0 0 (a * b % c) _ w m0 m1 c9 (by omega) (fun v => mul_c a b v ra rb) (fun v => div_c _ c v rn hc c9) (fun v => narrow_yes _ v hq)

set_option maxHeartbeats 400000 in
theorem near_c (a b c : Int) (w : World) (ra : R64 a) (rb : R64 b) (hc : 0 < c) (c9 : c ≤ 9223372036854775807) (hq : R64 (nrst (a * b) c)) :
    Calls Tryz.prog 14 #[.int .i64 a, .int .i64 b, .int .i64 c] w fun e w' => e = .returned (.tuple #[.int .i64 (nrst (a * b) c), .int .i64 0]) ∧ ∃ x : Later w, w' = x.out := by
  have c1 := fun v => divided_near a b c v ra rb hc c9 hq
  have Hc1 := Lib.hid c1; clear c1
  clear hq
  generalize nrst (a * b) c = q at *
  go_enter Tryz.func14, Tryz.ntmps14
  go_wp2_with (first | (go_at_call 25; (with_reducible refine (Hc1.out _).mono ?_); rintro e _ ⟨rfl, x, rfl⟩))
  exact bodyPost_ret (v := .tuple #[.int .i64 q, .int .i64 0]) (by simp [results, Tryz.results14, go_sem, *]) rfl ⟨rfl, (Later.mk_of (by repeat (first | (with_reducible assumption) | (with_reducible exact Below.refl _ _) | (with_reducible refine Later.after ?_ _) | (with_reducible refine Later.newer ?_ _) | (with_reducible refine Below.drew ?_) | (with_reducible refine Below.setCell ?_ (by first | exact Nat.le_refl _ | exact Nat.le_add_right _ _ | omega | (simp [go_sem]; done) | (simp [go_sem]; omega)) _))))⟩

set_option maxHeartbeats 400000 in
theorem near_r (a b c : Int) (w : World) (ra : R64 a) (rb : R64 b) (hc : 0 < c) (c9 : c ≤ 9223372036854775807) (hq : R64 (nrst (a * b) c)) :
    Calls Tryz.prog 15 #[.int .i64 a, .int .i64 b, .int .i64 c] w fun e w' => e = .returned (.tuple #[.int .i64 (nrst (a * b) c), .int .i64 0]) ∧ ∃ x : Later w, w' = x.out := by
  have m0 := Int.emod_nonneg (a * b) (show c ≠ 0 by omega)
  have m1 := Int.emod_lt_of_pos (a * b) hc
  have rn := mul_R128 a b ra rb
  by_cases g : c - a * b % c ≤ a * b % c
  · have e : nrst (a * b) c = a * b / c + 1 := by unfold nrst; rw [if_pos g]
    rw [e] at hq ⊢
    have c3 := fun v => of_r 1 v (by unfold R64; omega)
    have c4 := fun v => add_r (a * b / c) 1 v
    rw [one_W.1, one_W.2] at c3 c4
    exact near3_up a b c _ _ _ _ _ _ (a * b % c) _ _ w m0 m1 c9 g (fun v => mul_r a b v ra rb) (fun v => div_r _ c v rn hc c9) c3 c4 (fun v => narrow3_true _ _ _ v (fun v => narrow_r_yes _ v hq))
  · have e : nrst (a * b) c = a * b / c := by unfold nrst; rw [if_neg g]
    rw [e] at hq ⊢
    exact near3_dn a b c _ _ _ _ 0 0 (a * b % c) _ _ w m0 m1 c9 (by omega) (fun v => mul_r a b v ra rb) (fun v => div_r _ c v rn hc c9) (fun v => narrow3_true _ _ _ v (fun v => narrow_r_yes _ v hq))

end Go.Proofs.YtjmagehfkcnjjaaGreatDoor
