/-
  What is rounded down, and to the nearest: walked.
-/
import Derived.Test.YtjmagehfkcnjjaaDoorFI
namespace Go.Proofs.YtjmagehfkcnjjaaDoor
set_option linter.unusedVariables false
open Go.RowKit Go.Sort

theorem near_plain (a b : Int) (hb : 0 < b) : a - a / b * b = a % b ∧ 0 ≤ a % b ∧ a % b < b ∧ 2 * (nrst a b * b - a) ≤ b ∧ -b < 2 * (nrst a b * b - a) := by
  have m0 := Int.emod_nonneg a (show b ≠ 0 by omega)
  have m1 := Int.emod_lt_of_pos a hb
  have e := Int.mul_ediv_add_emod a b
  rw [Int.mul_comm] at e
  refine ⟨by omega, m0, m1, ?_, ?_⟩
  · unfold nrst
    split
    · rw [Int.add_mul]; omega
    · omega
  · unfold nrst
    split
    · rw [Int.add_mul]; omega
    · omega
theorem quo_bd (a b : Int) (a0 : -2147483648 ≤ a) (a9 : a ≤ 2147483647) (hb : 0 < b) : -2147483648 ≤ a / b ∧ a / b ≤ 2147483647 := by
  refine ⟨Int.le_ediv_of_mul_le hb ?_, ?_⟩
  · have := Int.mul_le_mul_of_nonneg_left (show (1 : Int) ≤ b by omega) (show (0 : Int) ≤ 2147483648 by omega)
    omega
  · refine Int.le_of_lt_add_one (Int.ediv_lt_of_lt_mul hb ?_)
    have := Int.mul_le_mul_of_nonneg_left (show (1 : Int) ≤ b by omega) (show (0 : Int) ≤ 2147483648 by omega)
    omega
set_option maxRecDepth 100000 in
set_option maxHeartbeats 1000000 in
theorem near_low (a b : Int) (hb : b ≤ 0) (w : World) (htab : Lib.TabIs Tryd.prog w "internal/strconv.uint64pow10" .u64 Lib.pow10Tab) : Calls Tryd.prog 6 #[.int .i32 a, .int .i32 b] w fun e w' => e = .returned (.bool true) ∧ ∃ x : Later w, w' = x.out := by
  have hs := fun v hb => shown_3 v (Lib.tabBelow_of_tabIs htab v hb)
  have HS := Lib.hid hs
  clear hs htab
  go_enter Tryd.func6, Tryd.ntmps6
  go_wp2_with (go_at_call 9; (with_reducible refine (HS.out _ (Below.refl _ _)).mono ?_); rintro e _ ⟨rfl, x, rfl⟩)
  exact bodyPost_ret (v := .bool true) (by simp [results, Tryd.results6, go_sem, *]) rfl ⟨rfl, (Later.mk_of (by repeat (first | (with_reducible assumption) | (with_reducible exact Below.refl _ _) | (with_reducible refine Later.after ?_ _) | (with_reducible refine Later.newer ?_ _) | (with_reducible refine Below.drew ?_) | (with_reducible refine Below.setCell ?_ (by first | exact Nat.le_refl _ | exact Nat.le_add_right _ _ | omega | (simp [go_sem]; done) | (simp [go_sem]; omega)) _))))⟩
set_option maxRecDepth 100000 in
set_option maxHeartbeats 1000000 in
theorem near_high (a b q r m1 m2 L d o : Int) (b0 : 0 < b) (b9 : b ≤ 2147483647) (a0 : -2147483648 ≤ a) (a9 : a ≤ 2147483647) (h1 : q * b = m1) (h2 : r * b = m2) (h3 : a - m1 = L) (h4 : m2 - a = d) (h5 : 2 * d = o)
    (k1 : -4611686018427387904 ≤ m1 ∧ m1 ≤ 4611686018427387904) (k2 : -4611686018427387904 ≤ m2 ∧ m2 ≤ 4611686018427387904) (L0 : 0 ≤ L) (L9 : L < b) (o9 : o ≤ b) (o0 : -b < o)
    (w : World) (htab : Lib.TabIs Tryd.prog w "internal/strconv.uint64pow10" .u64 Lib.pow10Tab) (c1 : ∀ w', Calls Tryd.prog 15 #[.int .i64 a, .int .i64 b] w' fun e w'' => e = .returned (.tuple #[.int .i64 q, .int .i64 0]) ∧ ∃ x : Later w', w'' = x.out) (c2 : ∀ w', Calls Tryd.prog 16 #[.int .i64 a, .int .i64 b] w' fun e w'' => e = .returned (.tuple #[.int .i64 r, .int .i64 0]) ∧ ∃ x : Later w', w'' = x.out) :
    Calls Tryd.prog 6 #[.int .i32 a, .int .i32 b] w fun e w' => e = .returned (.bool true) ∧ ∃ x : Later w, w' = x.out := by
  have hs := fun v hb => shown_3 v (Lib.tabBelow_of_tabIs htab v hb)
  have HS := Lib.hid hs
  have Hc1 := Lib.hid c1; clear c1
  have Hc2 := Lib.hid c2; clear c2
  clear hs htab
  have e1 : IntKind.i64.wrap (q * b) = m1 := by rw [h1, IntWalk.i64_in _ (by omega)]
  have e2 : IntKind.i64.wrap (r * b) = m2 := by rw [h2, IntWalk.i64_in _ (by omega)]
  have e3 : IntKind.i64.wrap (a - m1) = L := by rw [h3, IntWalk.i64_in _ (by omega)]
  have e4 : IntKind.i64.wrap (m2 - a) = d := by rw [h4, IntWalk.i64_in _ (by omega)]
  have e5 : IntKind.i64.wrap (2 * d) = o := by rw [h5, IntWalk.i64_in _ (by omega)]
  have e6 : IntKind.i64.wrap (-b) = -b := by rw [IntWalk.i64_in _ (by omega)]
  have f1 : wrap64 m1 = m1 := by unfold wrap64; omega
  have f2 : wrap64 m2 = m2 := by unfold wrap64; omega
  have f3 : wrap64 (a - m1) = L := by unfold wrap64; omega
  have f4 : wrap64 (m2 - a) = d := by unfold wrap64; omega
  have f5 : wrap64 (2 * d) = o := by unfold wrap64; omega
  have d1 : decide (0 ≤ L) = true := by simp [L0]
  have d2 : decide (L < b) = true := by simp [L9]
  have d3 : decide (o ≤ b) = true := by simp [o9]
  have d4 : decide (-b < o) = true := by simp [o0]
  have d5 : decide (b ≤ 0) = false := by simp; omega
  clear h3 h4 h5 k1 k2
  go_enter Tryd.func6, Tryd.ntmps6
  go_wp2_with (first | (go_at_call 9; (with_reducible refine (HS.out _ (Below.refl _ _)).mono ?_); rintro e _ ⟨rfl, x, rfl⟩) | (go_at_call 15; (with_reducible refine (Hc1.out _).mono ?_); rintro e _ ⟨rfl, x, rfl⟩) | (go_at_call 16; (with_reducible refine (Hc2.out _).mono ?_); rintro e _ ⟨rfl, x, rfl⟩))
  exact bodyPost_ret (v := .bool true) (by simp [results, Tryd.results6, go_sem, *]) rfl ⟨rfl, (Later.mk_of (by repeat (first | (with_reducible assumption) | (with_reducible exact Below.refl _ _) | (with_reducible refine Later.after ?_ _) | (with_reducible refine Later.newer ?_ _) | (with_reducible refine Below.drew ?_) | (with_reducible refine Below.setCell ?_ (by first | exact Nat.le_refl _ | exact Nat.le_add_right _ _ | omega | (simp [go_sem]; done) | (simp [go_sem]; omega)) _))))⟩
theorem near_walk (a b : Int) (a0 : -2147483648 ≤ a) (a9 : a ≤ 2147483647) (b9 : b ≤ 2147483647) (bm : -2147483648 ≤ b) (w : World) (htab : Lib.TabIs Tryd.prog w "internal/strconv.uint64pow10" .u64 Lib.pow10Tab) : Calls Tryd.prog 6 #[.int .i32 a, .int .i32 b] w fun e w' => e = .returned (.bool true) ∧ ∃ x : Later w, w' = x.out := by
  by_cases hb : b ≤ 0
  · exact near_low a b hb w htab
  · have b0 : 0 < b := by omega
    obtain ⟨p1, p2, p3, p4, p5⟩ := near_plain a b b0
    obtain ⟨q0, q9⟩ := quo_bd a b a0 a9 b0
    have hr : -2147483648 ≤ nrst a b ∧ nrst a b ≤ 2147483648 := by unfold nrst; split <;> omega
    have ra : R64 a := by unfold R64; omega
    have rb : R64 b := by unfold R64; omega
    have h1 := fun v => floor_all a b v ra rb
    have h2 := fun v => round_all a b v ra rb
    have g1 := dv_yes a b false b0 (show R64 (a / b) by unfold R64; omega)
    have g2 := dv_yes a b true b0 (show R64 (nrst a b) by unfold R64; omega)
    rw [g1.1, g1.2] at h1
    rw [g2.1, g2.2] at h2
    have k2 : -4611686018427387904 ≤ nrst a b * b ∧ nrst a b * b ≤ 4611686018427387904 := by omega
    exact near_high a b (a / b) (nrst a b) _ _ _ _ _ b0 b9 a0 a9 rfl rfl rfl rfl rfl (by omega) k2 (by omega) (by omega) p4 p5 w htab h1 h2
end Go.Proofs.YtjmagehfkcnjjaaDoor
