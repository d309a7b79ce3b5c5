/-
  The contracts of products and quotients of wide numbers.
-/
import Derived.Test.YtjmagehfkcnjjaaDoorW2
namespace Go.Proofs.YtjmagehfkcnjjaaDoor
set_option linter.unusedVariables false
open Go.RowKit


theorem mul64_c (x y : Int) (w : World) (hx0 : 0 ≤ x) (hx1 : x ≤ 18446744073709551615) (hy0 : 0 ≤ y) (hy1 : y ≤ 18446744073709551615) :
    Calls Tryd.prog 83 #[.int .u64 x, .int .u64 y] w fun e w' => e = .returned (.tuple #[.int .u64 (x * y / 18446744073709551616), .int .u64 (x * y % 18446744073709551616)]) ∧ w = w' := by
  obtain ⟨X, rfl⟩ := Int.eq_ofNat_of_zero_le hx0
  obtain ⟨Y, rfl⟩ := Int.eq_ofNat_of_zero_le hy0
  refine (Tryd.bits_Mul64 X Y (by omega) (by omega) w).mono fun e w' ⟨he, hw⟩ => ⟨?_, hw.symm⟩
  rw [he]
  rfl

theorem wrapu_bd (n : Int) : 0 ≤ IntKind.u64.wrap n ∧ IntKind.u64.wrap n ≤ 18446744073709551615 := by rw [IntKind.wrap_u64]; omega
theorem wrapu_pos (n : Int) (h : R64 n) (h0 : ¬ n < 0) : IntKind.u64.wrap n = n := by rw [IntKind.wrap_u64]; unfold R64 at h; omega
theorem wrapu_neg (n : Int) (h : R64 n) (h0 : n < 0) : IntKind.u64.wrap n = n + 18446744073709551616 := by rw [IntKind.wrap_u64]; unfold R64 at h; omega

set_option maxHeartbeats 400000 in
theorem mul_0 (a b : Int) (w : World) (ha : 0 ≤ a) (hb : 0 ≤ b) (ra : R64 a) (rb : R64 b) :
    Calls Tryd.prog 52 #[.int .i64 a, .int .i64 b] w fun e w' => e = .returned (.agg #[.int .i64 (hiW (a * b)), .int .u64 (loW (a * b))]) ∧ ∃ x : Later w, w' = x.out := by
  have ex : (a) * (b) = a * b := rfl
  have e1 : wrap64 (IntKind.u64.wrap a * IntKind.u64.wrap b / 18446744073709551616) = hiW (a * b) := by
    rw [wrapu_pos a ra (by omega), wrapu_pos b rb (by omega), ex]
    try simp only [IntKind.wrap_u64]
    unfold wrap64 hiW
    unfold R64 at ra rb
    generalize a * b = p at *
    omega
  have e2 : IntKind.u64.wrap a * IntKind.u64.wrap b % 18446744073709551616 = loW (a * b) := by
    rw [wrapu_pos a ra (by omega), wrapu_pos b rb (by omega), ex]
    unfold loW
    generalize a * b = p at *
    omega
  have E1 := Lib.hid e1
  have E2 := Lib.hid e2
  clear e1 e2 ex
  have ua := wrapu_bd a
  have ub := wrapu_bd b
  obtain ⟨ua0, ua1⟩ := ua
  obtain ⟨ub0, ub1⟩ := ub
  go_enter Tryd.func52, Tryd.ntmps52
  go_wp2_with (go_at_call 83; refine (mul64_c _ _ _ (by omega) (by omega) (by omega) (by omega)).mono ?_; rintro e _ ⟨rfl, rfl⟩)
  rw [E1.out, E2.out]
  exact bodyPost_ret (v := .agg #[.int .i64 (hiW (a * b)), .int .u64 (loW (a * b))]) (by simp [results, Tryd.results52, go_sem, *]) rfl ⟨rfl, (Later.mk_of (by repeat (first | (with_reducible assumption) | (with_reducible exact Below.refl _ _) | (with_reducible refine Later.after ?_ _) | (with_reducible refine Later.newer ?_ _) | (with_reducible refine Below.drew ?_) | (with_reducible refine Below.setCell ?_ (by first | exact Nat.le_refl _ | exact Nat.le_add_right _ _ | omega | (simp [go_sem]; done) | (simp [go_sem]; omega)) _))))⟩

set_option maxHeartbeats 400000 in
theorem mul_1 (a b : Int) (w : World) (ha : 0 ≤ a) (hb : b < 0) (ra : R64 a) (rb : R64 b) :
    Calls Tryd.prog 52 #[.int .i64 a, .int .i64 b] w fun e w' => e = .returned (.agg #[.int .i64 (hiW (a * b)), .int .u64 (loW (a * b))]) ∧ ∃ x : Later w, w' = x.out := by
  have ex : (a) * (b + 18446744073709551616) = a * b + a * 18446744073709551616 := Int.mul_add _ _ _
  have e1 : wrap64 (IntKind.u64.wrap (IntKind.u64.wrap a * IntKind.u64.wrap b / 18446744073709551616 - IntKind.u64.wrap a)) = hiW (a * b) := by
    rw [wrapu_pos a ra (by omega), wrapu_neg b rb (by omega), ex]
    try simp only [IntKind.wrap_u64]
    unfold wrap64 hiW
    unfold R64 at ra rb
    generalize a * b = p at *
    omega
  have e2 : IntKind.u64.wrap a * IntKind.u64.wrap b % 18446744073709551616 = loW (a * b) := by
    rw [wrapu_pos a ra (by omega), wrapu_neg b rb (by omega), ex]
    unfold loW
    generalize a * b = p at *
    omega
  have E1 := Lib.hid e1
  have E2 := Lib.hid e2
  clear e1 e2 ex
  have ua := wrapu_bd a
  have ub := wrapu_bd b
  obtain ⟨ua0, ua1⟩ := ua
  obtain ⟨ub0, ub1⟩ := ub
  go_enter Tryd.func52, Tryd.ntmps52
  go_wp2_with (go_at_call 83; refine (mul64_c _ _ _ (by omega) (by omega) (by omega) (by omega)).mono ?_; rintro e _ ⟨rfl, rfl⟩)
  rw [E1.out, E2.out]
  exact bodyPost_ret (v := .agg #[.int .i64 (hiW (a * b)), .int .u64 (loW (a * b))]) (by simp [results, Tryd.results52, go_sem, *]) rfl ⟨rfl, (Later.mk_of (by repeat (first | (with_reducible assumption) | (with_reducible exact Below.refl _ _) | (with_reducible refine Later.after ?_ _) | (with_reducible refine Later.newer ?_ _) | (with_reducible refine Below.drew ?_) | (with_reducible refine Below.setCell ?_ (by first | exact Nat.le_refl _ | exact Nat.le_add_right _ _ | omega | (simp [go_sem]; done) | (simp [go_sem]; omega)) _))))⟩

set_option maxHeartbeats 400000 in
theorem mul_2 (a b : Int) (w : World) (ha : a < 0) (hb : 0 ≤ b) (ra : R64 a) (rb : R64 b) :
    Calls Tryd.prog 52 #[.int .i64 a, .int .i64 b] w fun e w' => e = .returned (.agg #[.int .i64 (hiW (a * b)), .int .u64 (loW (a * b))]) ∧ ∃ x : Later w, w' = x.out := by
  have ex : (a + 18446744073709551616) * (b) = a * b + 18446744073709551616 * b := Int.add_mul _ _ _
  have e1 : wrap64 (IntKind.u64.wrap (IntKind.u64.wrap a * IntKind.u64.wrap b / 18446744073709551616 - IntKind.u64.wrap b)) = hiW (a * b) := by
    rw [wrapu_neg a ra (by omega), wrapu_pos b rb (by omega), ex]
    try simp only [IntKind.wrap_u64]
    unfold wrap64 hiW
    unfold R64 at ra rb
    generalize a * b = p at *
    omega
  have e2 : IntKind.u64.wrap a * IntKind.u64.wrap b % 18446744073709551616 = loW (a * b) := by
    rw [wrapu_neg a ra (by omega), wrapu_pos b rb (by omega), ex]
    unfold loW
    generalize a * b = p at *
    omega
  have E1 := Lib.hid e1
  have E2 := Lib.hid e2
  clear e1 e2 ex
  have ua := wrapu_bd a
  have ub := wrapu_bd b
  obtain ⟨ua0, ua1⟩ := ua
  obtain ⟨ub0, ub1⟩ := ub
  go_enter Tryd.func52, Tryd.ntmps52
  go_wp2_with (go_at_call 83; refine (mul64_c _ _ _ (by omega) (by omega) (by omega) (by omega)).mono ?_; rintro e _ ⟨rfl, rfl⟩)
  rw [E1.out, E2.out]
  exact bodyPost_ret (v := .agg #[.int .i64 (hiW (a * b)), .int .u64 (loW (a * b))]) (by simp [results, Tryd.results52, go_sem, *]) rfl ⟨rfl, (Later.mk_of (by repeat (first | (with_reducible assumption) | (with_reducible exact Below.refl _ _) | (with_reducible refine Later.after ?_ _) | (with_reducible refine Later.newer ?_ _) | (with_reducible refine Below.drew ?_) | (with_reducible refine Below.setCell ?_ (by first | exact Nat.le_refl _ | exact Nat.le_add_right _ _ | omega | (simp [go_sem]; done) | (simp [go_sem]; omega)) _))))⟩

set_option maxHeartbeats 400000 in
theorem mul_3 (a b : Int) (w : World) (ha : a < 0) (hb : b < 0) (ra : R64 a) (rb : R64 b) :
    Calls Tryd.prog 52 #[.int .i64 a, .int .i64 b] w fun e w' => e = .returned (.agg #[.int .i64 (hiW (a * b)), .int .u64 (loW (a * b))]) ∧ ∃ x : Later w, w' = x.out := by
  have ex : (a + 18446744073709551616) * (b + 18446744073709551616) = a * b + a * 18446744073709551616 + (18446744073709551616 * b + 18446744073709551616 * 18446744073709551616) := by rw [Int.add_mul, Int.mul_add, Int.mul_add]
  have e1 : wrap64 (IntKind.u64.wrap (IntKind.u64.wrap (IntKind.u64.wrap a * IntKind.u64.wrap b / 18446744073709551616 - IntKind.u64.wrap b) - IntKind.u64.wrap a)) = hiW (a * b) := by
    rw [wrapu_neg a ra (by omega), wrapu_neg b rb (by omega), ex]
    try simp only [IntKind.wrap_u64]
    unfold wrap64 hiW
    unfold R64 at ra rb
    generalize a * b = p at *
    omega
  have e2 : IntKind.u64.wrap a * IntKind.u64.wrap b % 18446744073709551616 = loW (a * b) := by
    rw [wrapu_neg a ra (by omega), wrapu_neg b rb (by omega), ex]
    unfold loW
    generalize a * b = p at *
    omega
  have E1 := Lib.hid e1
  have E2 := Lib.hid e2
  clear e1 e2 ex
  have ua := wrapu_bd a
  have ub := wrapu_bd b
  obtain ⟨ua0, ua1⟩ := ua
  obtain ⟨ub0, ub1⟩ := ub
  go_enter Tryd.func52, Tryd.ntmps52
  go_wp2_with (go_at_call 83; refine (mul64_c _ _ _ (by omega) (by omega) (by omega) (by omega)).mono ?_; rintro e _ ⟨rfl, rfl⟩)
  rw [E1.out, E2.out]
  exact bodyPost_ret (v := .agg #[.int .i64 (hiW (a * b)), .int .u64 (loW (a * b))]) (by simp [results, Tryd.results52, go_sem, *]) rfl ⟨rfl, (Later.mk_of (by repeat (first | (with_reducible assumption) | (with_reducible exact Below.refl _ _) | (with_reducible refine Later.after ?_ _) | (with_reducible refine Later.newer ?_ _) | (with_reducible refine Below.drew ?_) | (with_reducible refine Below.setCell ?_ (by first | exact Nat.le_refl _ | exact Nat.le_add_right _ _ | omega | (simp [go_sem]; done) | (simp [go_sem]; omega)) _))))⟩


theorem mul_c (a b : Int) (w : World) (ra : R64 a) (rb : R64 b) :
    Calls Tryd.prog 52 #[.int .i64 a, .int .i64 b] w fun e w' => e = .returned (.agg #[.int .i64 (hiW (a * b)), .int .u64 (loW (a * b))]) ∧ ∃ x : Later w, w' = x.out := by
  rcases Int.lt_or_le a 0 with ha | ha <;> rcases Int.lt_or_le b 0 with hb | hb
  · exact mul_3 a b w ha hb ra rb
  · exact mul_2 a b w ha hb ra rb
  · exact mul_1 a b w ha hb ra rb
  · exact mul_0 a b w ha hb ra rb

end Go.Proofs.YtjmagehfkcnjjaaDoor
