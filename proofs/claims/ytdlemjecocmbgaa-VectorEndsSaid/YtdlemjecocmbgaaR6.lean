/-
  The reference's root, bit by bit.
-/
import Derived.Test.YtdlemjecocmbgaaR5
namespace Go.Proofs.Ytdlemjecocmbgaa
set_option linter.unusedVariables false
open Go.RowKit

/-- the weight of what is not yet known in round k -/
def tw (k : Nat) : Int := 18446744073709551616 / 2 ^ k
theorem tw_step : ∀ k : Fin 64, tw k.val = 2 * tw (k.val + 1) ∧ 0 < tw (k.val + 1) ∧ tw (k.val + 1) ≤ 9223372036854775808 ∧ tw (k.val + 1) / 2 = tw (k.val + 2) := by decide +kernel
theorem tw_zero : tw 0 = 18446744073709551616 := by decide +kernel
theorem tw_one : tw 1 = 9223372036854775808 := by decide +kernel
theorem tw_end : tw 64 = 1 ∧ tw 65 = 0 := by decide +kernel

set_option maxRecDepth 100000 in
set_option maxHeartbeats 1000000 in
theorem long_r (a r : Int) (w : World) (ha : R128 a) (a0 : 0 ≤ a) (HR : IsRoot a r) :
    Calls Try.prog 57 #[.agg #[.int .i64 (hiW a), .int .u64 (loW a)]] w fun e w' => e = .returned (.int .u64 r) ∧ ∃ x : Later w, w' = x.out := by
  have rl := root_lt HR 18446744073709551616 (by omega) (by unfold R128 at ha; omega)
  have h0 : 0 ≤ hiW a := by unfold R128 at ha; unfold hiW; omega
  have up : ∀ x, 0 ≤ x → x ≤ 18446744073709551615 → ∀ w', Calls Try.prog 66 #[.int .u64 x, .agg #[.int .i64 (hiW a), .int .u64 (loW a)]] w' fun e w'' => e = .returned (.bool (decide (x ≤ r))) ∧ ∃ x : Later w', w'' = x.out := by
    intro x x0 x1 w'
    have h := upTo_r x a w' ha a0 x0 x1
    have e : decide (x * x ≤ a) = decide (x ≤ r) := by
      by_cases k : x ≤ r
      · have := root_above HR x0 k
        simp [k, this]
      · have k2 : ¬ x * x ≤ a := fun h => k (root_mono HR x0 h)
        simp [k, k2]
    rwa [e] at h
  have r0 := HR.r0
  clear ha a0 HR
  have Hup := Lib.hid up; clear up
  go_enter Try.func57, Try.ntmps57
  go_wp2_with (fail)
  go_loopw [3, 4] (fun u b wr => ∃ (k : Nat) (X B : Int), k ≤ 64 ∧ u = .int .u64 X ∧ b = .int .u64 B ∧ B = tw (k + 1) ∧ 0 ≤ X ∧ X ≤ r ∧ r < X + tw k ∧ X + tw k ≤ 18446744073709551616 ∧
      wr.cell? ⟨w.heap.size, 0, none⟩ = some (.int .i64 (hiW a)) ∧ wr.cell? ⟨w.heap.size, 1, none⟩ = some (.int .u64 (loW a)) ∧
      w.heap.size < wr.heap.size ∧ Below w.heap.size w wr)
      (fun _ b _ => (intOf b).toNat)
  case atStart =>
    exact ⟨0, 0, 9223372036854775808, by omega, rfl, rfl, tw_one.symm, by omega, by omega, by rw [tw_zero]; omega, by rw [tw_zero]; omega, by (first | (simp [go_sem, *]; done) | (simp [go_sem, *]; omega)), by (first | (simp [go_sem, *]; done) | (simp [go_sem, *]; omega)), by (first | (simp [go_sem, *]; done) | (simp [go_sem, *]; omega)), (by repeat (first | (with_reducible assumption) | (with_reducible exact Below.refl _ _) | (with_reducible refine Later.after ?_ _) | (with_reducible refine Later.newer ?_ _) | (with_reducible refine Below.drew ?_) | (with_reducible refine Below.setCell ?_ (by first | exact Nat.le_refl _ | exact Nat.le_add_right _ _ | (dsimp only; omega)) _)))⟩
  case round =>
    obtain ⟨k, X, B, hk, rfl, rfl, hB, X0, X1, X2, X3, a0, a1, hq, hL⟩ := hrel
    by_cases hlt : k < 64
    · have hT : tw k = 2 * B ∧ 0 < B ∧ B ≤ 9223372036854775808 ∧ B / 2 = tw (k + 2) := by rw [hB]; exact tw_step ⟨k, hlt⟩
      obtain ⟨H, hH⟩ : ∃ H, H = tw (k + 2) := ⟨_, rfl⟩
      rw [hT.1] at X2 X3
      have hH1 : B / 2 = H := by rw [hH]; exact hT.2.2.2
      have hH2 : H = tw (k + 1 + 1) := hH
      have B0 := hT.2.1
      have B1 := hT.2.2.1
      obtain ⟨Z, hZ⟩ : ∃ Z, Z = X + B := ⟨_, rfl⟩
      have eZ : IntKind.u64.wrap (X + B) = Z := by rw [hZ]; exact IntWalk.u64_in _ (by omega)
      clear hH
      by_cases g : Z ≤ r
      · have c := fun w' => Hup.out Z (by omega) (by omega) w'
        rw [show decide (Z ≤ r) = true by simp; omega] at c
        have Hc := Lib.hid c
        clear c hT
        have n1 : 0 ≤ Z := by omega
        have n2 : r < Z + B := by omega
        have n3 : Z + B ≤ 18446744073709551616 := by omega
        have HBw := Lib.hid hB
        have HHw := Lib.hid hH2
        clear hB hH2 hZ
        go_wp2_with (first | (go_at_call 66; (with_reducible refine (Hc.out _).mono ?_); rintro e _ ⟨rfl, y, rfl⟩))
        have g0 : w.heap.size < y.out.heap.size := Later.lt y _ hq
        go_roundw
        case rel => exact ⟨k + 1, Z, H, by omega, by go_num, by go_num, HHw.out, by omega, by omega, by rw [← HBw.out]; exact n2, by rw [← HBw.out]; exact n3, by (first | (simp [go_sem, *]; done) | (simp [go_sem, *]; omega)), by (first | (simp [go_sem, *]; done) | (simp [go_sem, *]; omega)), by (first | (simp [go_sem, *]; done) | (simp [go_sem, *]; omega)), (by repeat (first | (with_reducible assumption) | (with_reducible exact Below.refl _ _) | (with_reducible refine Later.after ?_ _) | (with_reducible refine Later.newer ?_ _) | (with_reducible refine Below.drew ?_) | (with_reducible refine Below.setCell ?_ (by first | exact Nat.le_refl _ | exact Nat.le_add_right _ _ | (dsimp only; omega)) _)))⟩
        case measure => simp [intOf]; omega
      · have c := fun w' => Hup.out Z (by omega) (by omega) w'
        rw [show decide (Z ≤ r) = false by simp; omega] at c
        have Hc := Lib.hid c
        clear c hT
        have n2 : r < X + B := by omega
        have n3 : X + B ≤ 18446744073709551616 := by omega
        have HBw := Lib.hid hB
        have HHw := Lib.hid hH2
        clear hB hH2 hZ
        go_wp2_with (first | (go_at_call 66; (with_reducible refine (Hc.out _).mono ?_); rintro e _ ⟨rfl, y, rfl⟩))
        have g0 : w.heap.size < y.out.heap.size := Later.lt y _ hq
        go_roundw
        case rel => exact ⟨k + 1, X, H, by omega, by go_num, by go_num, HHw.out, by omega, by omega, by rw [← HBw.out]; exact n2, by rw [← HBw.out]; exact n3, by (first | (simp [go_sem, *]; done) | (simp [go_sem, *]; omega)), by (first | (simp [go_sem, *]; done) | (simp [go_sem, *]; omega)), by (first | (simp [go_sem, *]; done) | (simp [go_sem, *]; omega)), (by repeat (first | (with_reducible assumption) | (with_reducible exact Below.refl _ _) | (with_reducible refine Later.after ?_ _) | (with_reducible refine Later.newer ?_ _) | (with_reducible refine Below.drew ?_) | (with_reducible refine Below.setCell ?_ (by first | exact Nat.le_refl _ | exact Nat.le_add_right _ _ | (dsimp only; omega)) _)))⟩
        case measure => simp [intOf]; omega
    · obtain rfl : k = 64 := by omega
      have hT := tw_end
      rw [hT.1] at X2 X3
      have hB0 : B = 0 := by rw [hB]; exact hT.2
      subst hB0
      obtain rfl : X = r := by omega
      clear hB hT
      go_wp2_with (fail)
      exact bodyPost_ret (v := .int .u64 X) (by simp [results, Try.results57, go_sem, *]) rfl ⟨rfl, (Later.mk_of (by repeat (first | (with_reducible assumption) | (with_reducible exact Below.refl _ _) | (with_reducible refine Later.after ?_ _) | (with_reducible refine Later.newer ?_ _) | (with_reducible refine Below.drew ?_) | (with_reducible refine Below.setCell ?_ (by first | exact Nat.le_refl _ | exact Nat.le_add_right _ _ | omega | (simp [go_sem]; done) | (simp [go_sem]; omega)) _))))⟩

set_option maxHeartbeats 400000 in
theorem long_r_neg (a : Int) (w : World) (h : hiW a < 0) :
    Calls Try.prog 57 #[.agg #[.int .i64 (hiW a), .int .u64 (loW a)]] w fun e w' => e = .returned (.int .u64 0) ∧ ∃ x : Later w, w' = x.out := by
  go_enter Try.func57, Try.ntmps57
  go_wp2_with (fail)
  exact bodyPost_ret (v := .int .u64 0) (by simp [results, Try.results57, go_sem, *]) rfl ⟨rfl, (Later.mk_of (by repeat (first | (with_reducible assumption) | (with_reducible exact Below.refl _ _) | (with_reducible refine Later.after ?_ _) | (with_reducible refine Later.newer ?_ _) | (with_reducible refine Below.drew ?_) | (with_reducible refine Below.setCell ?_ (by first | exact Nat.le_refl _ | exact Nat.le_add_right _ _ | omega | (simp [go_sem]; done) | (simp [go_sem]; omega)) _))))⟩

set_option maxHeartbeats 400000 in
theorem sqrt_r (n r : Int) (w : World) (h0 : 0 ≤ n) (h1 : n ≤ 18446744073709551615) (HR : IsRoot n r) :
    Calls Try.prog 46 #[.int .u64 n] w fun e w' => e = .returned (.int .u64 r) ∧ ∃ x : Later w, w' = x.out := by
  have c := fun w' => long_r n r w' (by unfold R128; omega) h0 HR
  rw [show hiW n = 0 by unfold hiW; omega, show loW n = n by unfold loW; omega] at c
  have Hc := Lib.hid c; clear c
  go_enter Try.func46, Try.ntmps46
  go_wp2_with (first | (go_at_call 57; (with_reducible refine (Hc.out _).mono ?_); rintro e _ ⟨rfl, x, rfl⟩))
  exact bodyPost_ret (v := .int .u64 r) (by simp [results, Try.results46, go_sem, *]) rfl ⟨rfl, (Later.mk_of (by repeat (first | (with_reducible assumption) | (with_reducible exact Below.refl _ _) | (with_reducible refine Later.after ?_ _) | (with_reducible refine Later.newer ?_ _) | (with_reducible refine Below.drew ?_) | (with_reducible refine Below.setCell ?_ (by first | exact Nat.le_refl _ | exact Nat.le_add_right _ _ | omega | (simp [go_sem]; done) | (simp [go_sem]; omega)) _))))⟩

end Go.Proofs.Ytdlemjecocmbgaa
