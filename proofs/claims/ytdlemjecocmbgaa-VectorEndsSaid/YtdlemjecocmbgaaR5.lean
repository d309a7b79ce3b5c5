/-
  The reference's root: the square of a number, by halves.
-/
import Derived.Test.YtdlemjecocmbgaaR3
namespace Go.Proofs.Ytdlemjecocmbgaa
set_option linter.unusedVariables false
open Go.RowKit

set_option maxRecDepth 100000 in
set_option maxHeartbeats 1000000 in
theorem upTo_walk (x a p q T : Int) (r : Bool) (w : World) (ha : R128 a) (hT : (p * p * 2 ^ 32 + (p * q + p * q)) * 2 ^ 32 + q * q = T) (e1 : wrap64 (IntKind.u64.wrap (x.tdiv 4294967296)) = p) (e2 : wrap64 (x.tmod 4294967296) = q)
    (c1 : ∀ w', Calls Try.prog 59 #[.int .i64 p, .int .i64 q] w' fun e w'' => e = .returned (.agg #[.int .i64 (hiW (p * q)), .int .u64 (loW (p * q))]) ∧ ∃ x : Later w', w'' = x.out)
    (c2 : ∀ w', Calls Try.prog 59 #[.int .i64 p, .int .i64 p] w' fun e w'' => e = .returned (.agg #[.int .i64 (hiW (p * p)), .int .u64 (loW (p * p))]) ∧ ∃ x : Later w', w'' = x.out)
    (c3 : ∀ w', Calls Try.prog 59 #[.int .i64 q, .int .i64 q] w' fun e w'' => e = .returned (.agg #[.int .i64 (hiW (q * q)), .int .u64 (loW (q * q))]) ∧ ∃ x : Later w', w'' = x.out)
    (hr : hiW T < 0 ∧ r = false ∨ 0 ≤ hiW T ∧ Hid (∀ w', Calls Try.prog 81 #[.agg #[.int .i64 (hiW T), .int .u64 (loW T)], .agg #[.int .i64 (hiW a), .int .u64 (loW a)]] w' fun e w'' => e = .returned (.int .i64 (ordW T a)) ∧ ∃ x : Later w', w'' = x.out) ∧ r = decide (ordW T a ≤ 0)) :
    Calls Try.prog 66 #[.int .u64 x, .agg #[.int .i64 (hiW a), .int .u64 (loW a)]] w fun e w' => e = .returned (.bool r) ∧ ∃ x : Later w, w' = x.out := by
  have Hc1 := Lib.hid c1; clear c1
  have Hc2 := Lib.hid c2; clear c2
  have Hc3 := Lib.hid c3; clear c3
  have Hha := Lib.hid ha; clear ha
  have HhT := Lib.hid hT; clear hT
  go_enter Try.func66, Try.ntmps66
  go_wp2_with (first | (go_at_call 59; (with_reducible refine (Hc1.out _).mono ?_); rintro e _ ⟨rfl, x7, rfl⟩) | (go_at_call 59; (with_reducible refine (Hc2.out _).mono ?_); rintro e _ ⟨rfl, x8, rfl⟩))
  have k8 : x7.out.heap.size < x8.out.heap.size := by have := x8.below.size; simp only [World.size_alloc] at this; omega
  have k7 : w.heap.size < x7.out.heap.size := by have := x7.below.size; simp only [World.size_alloc] at this; omega
  go_loopw [9] (fun i wr => ∃ (k : Nat) (I S : Int), I = (k : Int) ∧ k ≤ 32 ∧ i = .int .i64 I ∧ Hid (S = (p * p) * 2 ^ k) ∧
      wr.cell? ⟨x8.out.heap.size, 0, none⟩ = some (.int .i64 (hiW S)) ∧ wr.cell? ⟨x8.out.heap.size, 1, none⟩ = some (.int .u64 (loW S)) ∧ wr.frozen? ⟨x8.out.heap.size, 0, none⟩ = false ∧ wr.frozen? ⟨x8.out.heap.size, 1, none⟩ = false ∧ wr.cell? ⟨w.heap.size, 0, none⟩ = some (.int .i64 (hiW a)) ∧ wr.cell? ⟨w.heap.size, 1, none⟩ = some (.int .u64 (loW a)) ∧ wr.cell? ⟨x7.out.heap.size, 0, none⟩ = some (.int .i64 (hiW (p * q))) ∧ wr.cell? ⟨x7.out.heap.size, 1, none⟩ = some (.int .u64 (loW (p * q))) ∧
      x8.out.heap.size < wr.heap.size ∧ Below w.heap.size w wr)
      (fun i _ => 32 - (intOf i).toNat)
  case atStart =>
    exact ⟨0, 0, p * p, rfl, by omega, rfl, Lib.hid (by simp), by (first | (simp [go_sem, *]; done) | (simp [go_sem, *]; omega)), by (first | (simp [go_sem, *]; done) | (simp [go_sem, *]; omega)), by (first | (simp [go_sem, *]; done) | (simp [go_sem, *]; omega)), by (first | (simp [go_sem, *]; done) | (simp [go_sem, *]; omega)), by (first | (simp [go_sem, *]; done) | (simp [go_sem, *]; omega)), by (first | (simp [go_sem, *]; done) | (simp [go_sem, *]; omega)), by (first | (simp [go_sem, *]; done) | (simp [go_sem, *]; omega)), by (first | (simp [go_sem, *]; done) | (simp [go_sem, *]; omega)), by (first | (simp [go_sem, *]; done) | (simp [go_sem, *]; omega)), (by repeat (first | (with_reducible assumption) | (with_reducible exact Below.refl _ _) | (with_reducible refine Later.after ?_ _) | (with_reducible refine Later.newer ?_ _) | (with_reducible refine Below.drew ?_) | (with_reducible refine Below.setCell ?_ (by first | exact Nat.le_refl _ | exact Nat.le_add_right _ _ | (dsimp only; omega)) _)))⟩
  case round =>
    obtain ⟨k, I, S, hI, hk, rfl, HS, c0, c1, fz0, fz1, a0, a1, m0, m1, hq, hB⟩ := hrel
    have h7 : x7.out.heap.size < wr.heap.size := by omega
    have h0 : w.heap.size < wr.heap.size := by omega
    by_cases hlt : k < 32
    · have G : Hid (S + S = (p * p) * 2 ^ (k + 1)) := Lib.hid (by rw [HS.out, Int.pow_succ, ← Int.mul_assoc]; omega)
      clear HS
      go_wp2_with (first | (go_at_call 60; (with_reducible refine (add_r _ _ _).mono ?_); rintro e _ ⟨rfl, y, rfl⟩))
      have g8 : x8.out.heap.size < y.out.heap.size := Later.lt y _ hq
      have g7 : x7.out.heap.size < y.out.heap.size := Later.lt y _ h7
      have g0 : w.heap.size < y.out.heap.size := Later.lt y _ h0
      go_roundw
      case rel => exact ⟨k + 1, I + 1, S + S, by omega, by omega, by go_num, G, by (first | (simp [go_sem, *]; done) | (simp [go_sem, *]; omega)), by (first | (simp [go_sem, *]; done) | (simp [go_sem, *]; omega)), by (first | (simp [go_sem, *]; done) | (simp [go_sem, *]; omega)), by (first | (simp [go_sem, *]; done) | (simp [go_sem, *]; omega)), by (first | (simp [go_sem, *]; done) | (simp [go_sem, *]; omega)), by (first | (simp [go_sem, *]; done) | (simp [go_sem, *]; omega)), by (first | (simp [go_sem, *]; done) | (simp [go_sem, *]; omega)), by (first | (simp [go_sem, *]; done) | (simp [go_sem, *]; omega)), by (first | (simp [go_sem, *]; done) | (simp [go_sem, *]; omega)), (by repeat (first | (with_reducible assumption) | (with_reducible exact Below.refl _ _) | (with_reducible refine Later.after ?_ _) | (with_reducible refine Later.newer ?_ _) | (with_reducible refine Below.drew ?_) | (with_reducible refine Below.setCell ?_ (by first | exact Nat.le_refl _ | exact Nat.le_add_right _ _ | (dsimp only; omega)) _)))⟩
      case measure => simp [intOf]; omega
    · obtain rfl : I = 32 := by omega
      obtain rfl : k = 32 := by omega
      clear hI
      have HB := Lib.hid hB
      clear hB
      go_wp2_with (fail)
      refine wp_region_later_tail 5 (by kernel_rfl) (by kernel_rfl) ?_
      simp only [List.take_succ_cons, List.take_zero, List.drop_succ_cons, List.drop_zero]
      repeat (go_big_quiet_step ((first | (go_at_call 60; with_reducible exact Later.call _ (add_r _ _ _)))))
      refine wpQuiet_nil ?_
      intro x
      have g8 : x8.out.heap.size < x.out.heap.size := Later.lt x _ hq
      have g7 : x7.out.heap.size < x.out.heap.size := Later.lt x _ h7
      have g0 : w.heap.size < x.out.heap.size := Later.lt x _ h0
      have hB := HB.out
      clear HB
      have HS1 := HS
      clear HS
      go_wp2_with (fail)
      go_loopw [10] (fun i wr => ∃ (k : Nat) (I S' : Int), I = (k : Int) ∧ k ≤ 32 ∧ i = .int .i64 I ∧ Hid (S' = (S + (p * q + p * q)) * 2 ^ k) ∧
          wr.cell? ⟨x8.out.heap.size, 0, none⟩ = some (.int .i64 (hiW S')) ∧ wr.cell? ⟨x8.out.heap.size, 1, none⟩ = some (.int .u64 (loW S')) ∧ wr.frozen? ⟨x8.out.heap.size, 0, none⟩ = false ∧ wr.frozen? ⟨x8.out.heap.size, 1, none⟩ = false ∧ wr.cell? ⟨w.heap.size, 0, none⟩ = some (.int .i64 (hiW a)) ∧ wr.cell? ⟨w.heap.size, 1, none⟩ = some (.int .u64 (loW a)) ∧ wr.cell? ⟨x7.out.heap.size, 0, none⟩ = some (.int .i64 (hiW (p * q))) ∧ wr.cell? ⟨x7.out.heap.size, 1, none⟩ = some (.int .u64 (loW (p * q))) ∧
          x8.out.heap.size < wr.heap.size ∧ Below w.heap.size w wr)
          (fun i _ => 32 - (intOf i).toNat)
      case atStart =>
        exact ⟨0, 0, S + (p * q + p * q), rfl, by omega, rfl, Lib.hid (by simp), by (first | (simp [go_sem, *]; done) | (simp [go_sem, *]; omega)), by (first | (simp [go_sem, *]; done) | (simp [go_sem, *]; omega)), by (first | (simp [go_sem, *]; done) | (simp [go_sem, *]; omega)), by (first | (simp [go_sem, *]; done) | (simp [go_sem, *]; omega)), by (first | (simp [go_sem, *]; done) | (simp [go_sem, *]; omega)), by (first | (simp [go_sem, *]; done) | (simp [go_sem, *]; omega)), by (first | (simp [go_sem, *]; done) | (simp [go_sem, *]; omega)), by (first | (simp [go_sem, *]; done) | (simp [go_sem, *]; omega)), by (first | (simp [go_sem, *]; done) | (simp [go_sem, *]; omega)), (by repeat (first | (with_reducible assumption) | (with_reducible exact Below.refl _ _) | (with_reducible refine Later.after ?_ _) | (with_reducible refine Later.newer ?_ _) | (with_reducible refine Below.drew ?_) | (with_reducible refine Below.setCell ?_ (by first | exact Nat.le_refl _ | exact Nat.le_add_right _ _ | (dsimp only; omega)) _)))⟩
      case round =>
        obtain ⟨k, I, S', hI, hk, rfl, HS, c0, c1, fz0, fz1, a0, a1, m0, m1, hq, hB⟩ := hrel
        have h7 : x7.out.heap.size < wr.heap.size := by omega
        have h0 : w.heap.size < wr.heap.size := by omega
        by_cases hlt : k < 32
        · have G : Hid (S' + S' = (S + (p * q + p * q)) * 2 ^ (k + 1)) := Lib.hid (by rw [HS.out, Int.pow_succ, ← Int.mul_assoc]; omega)
          clear HS
          go_wp2_with (first | (go_at_call 60; (with_reducible refine (add_r _ _ _).mono ?_); rintro e _ ⟨rfl, y, rfl⟩))
          have g8 : x8.out.heap.size < y.out.heap.size := Later.lt y _ hq
          have g7 : x7.out.heap.size < y.out.heap.size := Later.lt y _ h7
          have g0 : w.heap.size < y.out.heap.size := Later.lt y _ h0
          go_roundw
          case rel => exact ⟨k + 1, I + 1, S' + S', by omega, by omega, by go_num, G, by (first | (simp [go_sem, *]; done) | (simp [go_sem, *]; omega)), by (first | (simp [go_sem, *]; done) | (simp [go_sem, *]; omega)), by (first | (simp [go_sem, *]; done) | (simp [go_sem, *]; omega)), by (first | (simp [go_sem, *]; done) | (simp [go_sem, *]; omega)), by (first | (simp [go_sem, *]; done) | (simp [go_sem, *]; omega)), by (first | (simp [go_sem, *]; done) | (simp [go_sem, *]; omega)), by (first | (simp [go_sem, *]; done) | (simp [go_sem, *]; omega)), by (first | (simp [go_sem, *]; done) | (simp [go_sem, *]; omega)), by (first | (simp [go_sem, *]; done) | (simp [go_sem, *]; omega)), (by repeat (first | (with_reducible assumption) | (with_reducible exact Below.refl _ _) | (with_reducible refine Later.after ?_ _) | (with_reducible refine Later.newer ?_ _) | (with_reducible refine Below.drew ?_) | (with_reducible refine Below.setCell ?_ (by first | exact Nat.le_refl _ | exact Nat.le_add_right _ _ | (dsimp only; omega)) _)))⟩
          case measure => simp [intOf]; omega
        · obtain rfl : I = 32 := by omega
          obtain rfl : k = 32 := by omega
          clear hI
          have HB := Lib.hid hB
          have ET : Hid (S' + q * q = T) := Lib.hid (by rw [HS.out, HS1.out]; exact HhT.out)
          clear hB HS HS1
          go_wp2_with (fail)
          refine wp_region_later_tail 5 (by kernel_rfl) (by kernel_rfl) ?_
          simp only [List.take_succ_cons, List.take_zero, List.drop_succ_cons, List.drop_zero]
          repeat (go_big_quiet_step ((first | (go_at_call 59; with_reducible exact Later.call _ (Hc3.out _)) | (go_at_call 60; with_reducible exact Later.call _ (add_r _ _ _)))))
          refine wpQuiet_nil ?_
          intro x
          have g8 : x8.out.heap.size < x.out.heap.size := Later.lt x _ hq
          have g7 : x7.out.heap.size < x.out.heap.size := Later.lt x _ h7
          have g0 : w.heap.size < x.out.heap.size := Later.lt x _ h0
          rw [ET.out]
          clear ET
          have hB := HB.out
          clear HB
          rcases hr with ⟨hneg, rfl⟩ | ⟨hpos, hcm, rfl⟩
          · go_wp2_with (fail)
            exact bodyPost_ret (v := .bool false) (by simp [results, Try.results66, go_sem, *]) rfl ⟨rfl, (Later.mk_of (by repeat (first | (with_reducible assumption) | (with_reducible exact Below.refl _ _) | (with_reducible refine Later.after ?_ _) | (with_reducible refine Later.newer ?_ _) | (with_reducible refine Below.drew ?_) | (with_reducible refine Below.setCell ?_ (by first | exact Nat.le_refl _ | exact Nat.le_add_right _ _ | omega | (simp [go_sem]; done) | (simp [go_sem]; omega)) _))))⟩
          · go_wp2_with (first | (go_at_call 81; (with_reducible refine (hcm.out _).mono ?_); rintro e _ ⟨rfl, y, rfl⟩))
            exact bodyPost_ret (v := .bool (decide (ordW T a ≤ 0))) (by simp [results, Try.results66, go_sem, *]) rfl ⟨rfl, (Later.mk_of (by repeat (first | (with_reducible assumption) | (with_reducible exact Below.refl _ _) | (with_reducible refine Later.after ?_ _) | (with_reducible refine Later.newer ?_ _) | (with_reducible refine Below.drew ?_) | (with_reducible refine Below.setCell ?_ (by first | exact Nat.le_refl _ | exact Nat.le_add_right _ _ | omega | (simp [go_sem]; done) | (simp [go_sem]; omega)) _))))⟩

/-- is the square of x at most a? -/
theorem upTo_r (x a : Int) (w : World) (ha : R128 a) (a0 : 0 ≤ a) (x0 : 0 ≤ x) (x1 : x ≤ 18446744073709551615) :
    Calls Try.prog 66 #[.int .u64 x, .agg #[.int .i64 (hiW a), .int .u64 (loW a)]] w fun e w' => e = .returned (.bool (decide (x * x ≤ a))) ∧ ∃ x : Later w, w' = x.out := by
  obtain ⟨p, hp⟩ : ∃ p, p = x / 4294967296 := ⟨_, rfl⟩
  obtain ⟨q, hq⟩ : ∃ q, q = x % 4294967296 := ⟨_, rfl⟩
  have hx : x = p * 4294967296 + q := by omega
  have rp : R64 p := by unfold R64; omega
  have rq : R64 q := by unfold R64; omega
  have hT : (p * p * 2 ^ 32 + (p * q + p * q)) * 2 ^ 32 + q * q = x * x := by
    have e : (2 : Int) ^ 32 = 4294967296 := by decide
    rw [hx, sq_add, e]
    have e1 : p * 4294967296 * (p * 4294967296) = p * p * 4294967296 * 4294967296 := by rw [Int.mul_assoc, Int.mul_comm 4294967296, Int.mul_assoc, Int.mul_assoc, Int.mul_assoc]
    have e2 : p * 4294967296 * q = p * q * 4294967296 := by rw [Int.mul_assoc, Int.mul_comm 4294967296, Int.mul_assoc]
    rw [e1, e2]
    omega
  have s0 := Int.mul_nonneg x0 x0
  have s1 := Int.mul_le_mul x1 x1 x0 (by omega)
  refine upTo_walk x a p q (x * x) _ w ha hT ?_ ?_ (fun v => mul_r p q v rp rq) (fun v => mul_r p p v rp rp) (fun v => mul_r q q v rq rq) ?_
  · rw [Int.tdiv_eq_ediv_of_nonneg x0, IntWalk.u64_in _ (by omega)]
    unfold wrap64; omega
  · rw [Int.tmod_eq_emod_of_nonneg x0]
    unfold wrap64; omega
  · by_cases h : x * x < 170141183460469231731687303715884105728
    · refine .inr ⟨by unfold hiW; omega, Lib.hid (fun v => cmp_r _ _ v (by unfold R128; omega) ha), ?_⟩
      unfold ordW
      by_cases h1 : x * x = a
      · simp [h1]
      · by_cases h2 : x * x < a
        · rw [if_neg h1, if_pos h2]; simp; omega
        · rw [if_neg h1, if_neg h2]; simp; omega
    · refine .inl ⟨by unfold hiW; omega, ?_⟩
      unfold R128 at ha
      simp; omega
end Go.Proofs.Ytdlemjecocmbgaa
