/-
  A product that is divided by one of its factors; quotients of some times as much: walked.
-/
import Derived.Test.YtjmagehfkcnjjaaDoorFJ
namespace Go.Proofs.YtjmagehfkcnjjaaDoor
set_option linter.unusedVariables false
open Go.RowKit Go.Sort

theorem nrst_mul (a b : Int) (hb : 0 < b) : nrst (a * b) b = a ∧ a * b / b = a := by
  have h1 : a * b % b = 0 := Int.mul_emod_left a b
  have h2 : a * b / b = a := Int.mul_ediv_cancel a (by omega)
  refine ⟨?_, h2⟩
  unfold nrst
  rw [h1, h2, if_neg (by omega)]
theorem nrst_times (a b k : Int) (hb : 0 < b) (hk : 0 < k) : nrst (a * k) (b * k) = nrst a b ∧ a * k / (b * k) = a / b := by
  have h1 : a * k / (b * k) = a / b := Int.mul_ediv_mul_of_pos_left a b hk
  have h2 : a * k % (b * k) = a % b * k := by rw [Int.mul_comm a k, Int.mul_comm b k, Int.mul_emod_mul_of_pos _ _ hk, Int.mul_comm]
  refine ⟨?_, h1⟩
  unfold nrst
  rw [h1, h2]
  by_cases h : b - a % b ≤ a % b
  · rw [if_pos h, if_pos (by rw [← Int.sub_mul]; exact Int.mul_le_mul_of_nonneg_right h (by omega))]
  · rw [if_neg h, if_neg (by rw [← Int.sub_mul]; intro h3; exact h (Int.le_of_mul_le_mul_right h3 hk))]
set_option maxRecDepth 100000 in
set_option maxHeartbeats 1000000 in
theorem scales_low (a b k : Int) (hb : b ≤ 0) (w : World) (htab : Lib.TabIs Tryd.prog w "internal/strconv.uint64pow10" .u64 Lib.pow10Tab) : Calls Tryd.prog 7 #[.int .i32 a, .int .i32 b, .int .u16 k] w fun e w' => e = .returned (.bool true) ∧ ∃ x : Later w, w' = x.out := by
  have hs := fun v hb => shown_3 v (Lib.tabBelow_of_tabIs htab v hb)
  have HS := Lib.hid hs
  clear hs htab
  go_enter Tryd.func7, Tryd.ntmps7
  go_wp2_with (go_at_call 9; (with_reducible refine (HS.out _ (Below.refl _ _)).mono ?_); rintro e _ ⟨rfl, x, rfl⟩)
  exact bodyPost_ret (v := .bool true) (by simp [results, Tryd.results7, go_sem, *]) rfl ⟨rfl, (Later.mk_of (by repeat (first | (with_reducible assumption) | (with_reducible exact Below.refl _ _) | (with_reducible refine Later.after ?_ _) | (with_reducible refine Later.newer ?_ _) | (with_reducible refine Below.drew ?_) | (with_reducible refine Below.setCell ?_ (by first | exact Nat.le_refl _ | exact Nat.le_add_right _ _ | omega | (simp [go_sem]; done) | (simp [go_sem]; omega)) _))))⟩
set_option maxRecDepth 100000 in
set_option maxHeartbeats 1000000 in
theorem scales_nought (a b : Int) (hb : 0 < b) (w : World) (htab : Lib.TabIs Tryd.prog w "internal/strconv.uint64pow10" .u64 Lib.pow10Tab) : Calls Tryd.prog 7 #[.int .i32 a, .int .i32 b, .int .u16 0] w fun e w' => e = .returned (.bool true) ∧ ∃ x : Later w, w' = x.out := by
  have hs := fun v hb => shown_3 v (Lib.tabBelow_of_tabIs htab v hb)
  have HS := Lib.hid hs
  clear hs htab
  have d5 : decide (b ≤ 0) = false := by simp; omega
  go_enter Tryd.func7, Tryd.ntmps7
  go_wp2_with (go_at_call 9; (with_reducible refine (HS.out _ (Below.refl _ _)).mono ?_); rintro e _ ⟨rfl, x, rfl⟩)
  exact bodyPost_ret (v := .bool true) (by simp [results, Tryd.results7, go_sem, *]) rfl ⟨rfl, (Later.mk_of (by repeat (first | (with_reducible assumption) | (with_reducible exact Below.refl _ _) | (with_reducible refine Later.after ?_ _) | (with_reducible refine Later.newer ?_ _) | (with_reducible refine Below.drew ?_) | (with_reducible refine Below.setCell ?_ (by first | exact Nat.le_refl _ | exact Nat.le_add_right _ _ | omega | (simp [go_sem]; done) | (simp [go_sem]; omega)) _))))⟩
set_option maxRecDepth 100000 in
set_option maxHeartbeats 1000000 in
theorem scales_high (a b k q r A B : Int) (b0 : 0 < b) (b9 : b ≤ 2147483647) (a0 : -2147483648 ≤ a) (a9 : a ≤ 2147483647) (k0 : 0 < k) (k9 : k ≤ 65535) (h1 : a * k = A) (h2 : b * k = B)
    (n1 : -4611686018427387904 ≤ A ∧ A ≤ 4611686018427387904) (n2 : -4611686018427387904 ≤ B ∧ B ≤ 4611686018427387904)
    (w : World) (htab : Lib.TabIs Tryd.prog w "internal/strconv.uint64pow10" .u64 Lib.pow10Tab) (c1 : ∀ w', Calls Tryd.prog 17 #[.int .i64 a, .int .i64 b, .int .i64 b] w' fun e w'' => e = .returned (.tuple #[.int .i64 a, .int .i64 0]) ∧ ∃ x : Later w', w'' = x.out) (c2 : ∀ w', Calls Tryd.prog 18 #[.int .i64 a, .int .i64 b, .int .i64 b] w' fun e w'' => e = .returned (.tuple #[.int .i64 a, .int .i64 0]) ∧ ∃ x : Later w', w'' = x.out)
    (c3 : ∀ w', Calls Tryd.prog 15 #[.int .i64 a, .int .i64 b] w' fun e w'' => e = .returned (.tuple #[.int .i64 q, .int .i64 0]) ∧ ∃ x : Later w', w'' = x.out) (c4 : ∀ w', Calls Tryd.prog 15 #[.int .i64 A, .int .i64 B] w' fun e w'' => e = .returned (.tuple #[.int .i64 q, .int .i64 0]) ∧ ∃ x : Later w', w'' = x.out) (c5 : ∀ w', Calls Tryd.prog 16 #[.int .i64 a, .int .i64 b] w' fun e w'' => e = .returned (.tuple #[.int .i64 r, .int .i64 0]) ∧ ∃ x : Later w', w'' = x.out) (c6 : ∀ w', Calls Tryd.prog 16 #[.int .i64 A, .int .i64 B] w' fun e w'' => e = .returned (.tuple #[.int .i64 r, .int .i64 0]) ∧ ∃ x : Later w', w'' = x.out) :
    Calls Tryd.prog 7 #[.int .i32 a, .int .i32 b, .int .u16 k] w fun e w' => e = .returned (.bool true) ∧ ∃ x : Later w, w' = x.out := by
  have hs := fun v hb => shown_3 v (Lib.tabBelow_of_tabIs htab v hb)
  have HS := Lib.hid hs
  have Hc1 := Lib.hid c1; clear c1
  have Hc2 := Lib.hid c2; clear c2
  have Hc3 := Lib.hid c3; clear c3
  have Hc4 := Lib.hid c4; clear c4
  have Hc5 := Lib.hid c5; clear c5
  have Hc6 := Lib.hid c6; clear c6
  clear hs htab
  have e1 : IntKind.i64.wrap (a * k) = A := by rw [h1, IntWalk.i64_in _ (by omega)]
  have e2 : IntKind.i64.wrap (b * k) = B := by rw [h2, IntWalk.i64_in _ (by omega)]
  have f1 : wrap64 A = A := by unfold wrap64; omega
  have f2 : wrap64 B = B := by unfold wrap64; omega
  have d5 : decide (b ≤ 0) = false := by simp; omega
  have d6 : decide (k = 0) = false := by simp; omega
  have d7 : (k == 0) = false := by simp; omega
  clear n1 n2
  go_enter Tryd.func7, Tryd.ntmps7
  go_wp2_with (first | (go_at_call 9; (with_reducible refine (HS.out _ (Below.refl _ _)).mono ?_); rintro e _ ⟨rfl, x, rfl⟩) | (go_at_call 17; (with_reducible refine (Hc1.out _).mono ?_); rintro e _ ⟨rfl, x, rfl⟩) | (go_at_call 18; (with_reducible refine (Hc2.out _).mono ?_); rintro e _ ⟨rfl, x, rfl⟩) | (go_at_call 15; (with_reducible refine (Hc3.out _).mono ?_); rintro e _ ⟨rfl, x, rfl⟩) | (go_at_call 15; (with_reducible refine (Hc4.out _).mono ?_); rintro e _ ⟨rfl, x, rfl⟩) | (go_at_call 16; (with_reducible refine (Hc5.out _).mono ?_); rintro e _ ⟨rfl, x, rfl⟩) | (go_at_call 16; (with_reducible refine (Hc6.out _).mono ?_); rintro e _ ⟨rfl, x, rfl⟩))
  exact bodyPost_ret (v := .bool true) (by simp [results, Tryd.results7, go_sem, *]) rfl ⟨rfl, (Later.mk_of (by repeat (first | (with_reducible assumption) | (with_reducible exact Below.refl _ _) | (with_reducible refine Later.after ?_ _) | (with_reducible refine Later.newer ?_ _) | (with_reducible refine Below.drew ?_) | (with_reducible refine Below.setCell ?_ (by first | exact Nat.le_refl _ | exact Nat.le_add_right _ _ | omega | (simp [go_sem]; done) | (simp [go_sem]; omega)) _))))⟩
theorem scales_walk (a b k : Int) (a0 : -2147483648 ≤ a) (a9 : a ≤ 2147483647) (b9 : b ≤ 2147483647) (k0 : 0 ≤ k) (k9 : k ≤ 65535) (w : World) (htab : Lib.TabIs Tryd.prog w "internal/strconv.uint64pow10" .u64 Lib.pow10Tab) : Calls Tryd.prog 7 #[.int .i32 a, .int .i32 b, .int .u16 k] w fun e w' => e = .returned (.bool true) ∧ ∃ x : Later w, w' = x.out := by
  by_cases hb : b ≤ 0
  · exact scales_low a b k hb w htab
  have b0 : 0 < b := by omega
  by_cases hk : k = 0
  · subst hk
    exact scales_nought a b b0 w htab
  have k1 : 0 < k := by omega
  obtain ⟨p1, p2⟩ := nrst_mul a b b0
  obtain ⟨p3, p4⟩ := nrst_times a b k b0 k1
  obtain ⟨q0, q9⟩ := quo_bd a b a0 a9 b0
  have hr : -2147483648 ≤ nrst a b ∧ nrst a b ≤ 2147483648 := by unfold nrst; split <;> omega
  have hA : -4611686018427387904 ≤ a * k ∧ a * k ≤ 4611686018427387904 := by
    have h1 := Int.mul_le_mul_of_nonneg_right a9 k0
    have h2 := Int.mul_le_mul_of_nonneg_right a0 k0
    omega
  have hB : 0 < b * k ∧ b * k ≤ 4611686018427387904 := by
    have h1 := Int.mul_le_mul_of_nonneg_right b9 k0
    have h2 := Int.mul_pos b0 k1
    omega
  have ra : R64 a := by unfold R64; omega
  have rb : R64 b := by unfold R64; omega
  have rA : R64 (a * k) := by unfold R64; omega
  have rB : R64 (b * k) := by unfold R64; omega
  have h1 := fun v => scale_all a b b v ra rb rb
  have h2 := fun v => nearA_all a b b v ra rb rb
  have h3 := fun v => floor_all a b v ra rb
  have h4 := fun v => floor_all (a * k) (b * k) v rA rB
  have h5 := fun v => round_all a b v ra rb
  have h6 := fun v => round_all (a * k) (b * k) v rA rB
  have g1 := dv_yes (a * b) b false b0 (show R64 (a * b / b) by rw [p2]; exact ra)
  have g2 := dv_yes (a * b) b true b0 (show R64 (nrst (a * b) b) by rw [p1]; exact ra)
  have g3 := dv_yes a b false b0 (show R64 (a / b) by unfold R64; omega)
  have g4 := dv_yes (a * k) (b * k) false hB.1 (show R64 (a * k / (b * k)) by rw [p4]; unfold R64; omega)
  have g5 := dv_yes a b true b0 (show R64 (nrst a b) by unfold R64; omega)
  have g6 := dv_yes (a * k) (b * k) true hB.1 (show R64 (nrst (a * k) (b * k)) by rw [p3]; unfold R64; omega)
  rw [g1.1, g1.2, show dvQ (a * b) b false = a from p2] at h1
  rw [g2.1, g2.2, show dvQ (a * b) b true = a from p1] at h2
  rw [g3.1, g3.2] at h3
  rw [g4.1, g4.2, show dvQ (a * k) (b * k) false = a / b from p4] at h4
  rw [g5.1, g5.2] at h5
  rw [g6.1, g6.2, show dvQ (a * k) (b * k) true = nrst a b from p3] at h6
  exact scales_high a b k (a / b) (nrst a b) _ _ b0 b9 a0 a9 k1 k9 rfl rfl hA (by omega) w htab h1 h2 h3 h4 h5 h6
end Go.Proofs.YtjmagehfkcnjjaaDoor
