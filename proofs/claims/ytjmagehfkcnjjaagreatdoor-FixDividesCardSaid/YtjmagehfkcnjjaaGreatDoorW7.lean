/-
  The contract of the reference's quotient: bit by bit, from the highest one on.
-/
import Derived.Test.YtjmagehfkcnjjaaGreatDoorW6
namespace Go.Proofs.YtjmagehfkcnjjaaGreatDoor
set_option linter.unusedVariables false
open Go.RowKit

def top63 (x : Int) : Int := x / 9223372036854775808
@[local go_sem] theorem fold63 (x : Int) : x / 9223372036854775808 = top63 x := rfl

/-- what holds at the head of each round: T has been divided, its quotient is Q and its rest t; h and l are the halves of what is left of N -/
structure Bits (N b Q T h l t : Int) (k : Nat) : Prop where
  q : Q = T / b
  r : t = T % b
  all : T * 340282366920938463463374607431768211456 + (h * 18446744073709551616 + l) = N * 2 ^ k

theorem bits_first (N b : Int) (b0 : 0 < b) : Bits N b 0 0 (N / 18446744073709551616) (N % 18446744073709551616) 0 0 :=
  ⟨by simp, by simp, by simp; omega⟩

theorem bits_next (N b Q T h l t h2 l2 c d : Int) (k : Nat) (g : Bits N b Q T h l t k) (hc : top63 h = c) (hd : top63 l = d) (hh : h2 = h * 2 + d - c * 18446744073709551616) (hl : l2 = l * 2 - d * 18446744073709551616) (b0 : 0 < b) (t0 : 0 ≤ t) (t1 : t < b) (c0 : 0 ≤ c) (c1 : c ≤ 1) :
    (t * 2 + c < b → Bits N b (Q + Q) (T * 2 + c) h2 l2 (t * 2 + c) (k + 1)) ∧ (b ≤ t * 2 + c → Bits N b (Q + Q + 1) (T * 2 + c) h2 l2 (t * 2 + c - b) (k + 1)) := by
  obtain ⟨q, r, a⟩ := g
  unfold top63 at hc hd
  have e := Int.mul_ediv_add_emod T b
  rw [← q, ← r] at e
  have k2 : T * 2 + c = t * 2 + c + b * (Q + Q) := by rw [Int.mul_add]; omega
  have all : (T * 2 + c) * 340282366920938463463374607431768211456 + (h2 * 18446744073709551616 + l2) = N * 2 ^ (k + 1) := by
    rw [Int.pow_succ, ← Int.mul_assoc, ← a, hh, hl]
    omega
  refine ⟨fun hlt => ⟨?_, ?_, all⟩, fun hge => ⟨?_, ?_, all⟩⟩
  · rw [k2, Int.add_mul_ediv_left _ _ (by omega), Int.ediv_eq_zero_of_lt (by omega) (by omega)]; omega
  · rw [k2, Int.add_mul_emod_self_left, Int.emod_eq_of_lt (by omega) (by omega)]
  · have k3 : T * 2 + c = t * 2 + c - b + b * (Q + Q + 1) := by rw [Int.mul_add, Int.mul_one]; omega
    rw [k3, Int.add_mul_ediv_left _ _ (by omega), Int.ediv_eq_zero_of_lt (by omega) (by omega)]; omega
  · have k3 : T * 2 + c = t * 2 + c - b + b * (Q + Q + 1) := by rw [Int.mul_add, Int.mul_one]; omega
    rw [k3, Int.add_mul_emod_self_left, Int.emod_eq_of_lt (by omega) (by omega)]

theorem bits_last (N b Q T h l t : Int) (g : Bits N b Q T h l t 128) (h0 : 0 ≤ h) (h1 : h ≤ 18446744073709551615) (l0 : 0 ≤ l) (l1 : l ≤ 18446744073709551615) : Q = N / b ∧ t = N % b := by
  obtain ⟨q, r, a⟩ := g
  have e : (2 : Int) ^ 128 = 340282366920938463463374607431768211456 := by decide +kernel
  rw [e] at a
  have : T = N := by omega
  rw [← this]
  exact ⟨q, r⟩


set_option maxHeartbeats 400000 in
theorem div_r_bad (n b : Int) (w : World) (hb : b ≤ 0) :
    Calls Tryz.prog 26 #[.agg #[.int .i64 (hiW n), .int .u64 (loW n)], .int .i64 b] w fun e w' => e = .returned (.tuple #[.agg #[.int .i64 0, .int .u64 0], .int .i64 0, .int .i64 1]) ∧ ∃ x : Later w, w' = x.out := by
  go_enter Tryz.func26, Tryz.ntmps26
  go_wp2
  exact bodyPost_ret (v := .tuple #[.agg #[.int .i64 0, .int .u64 0], .int .i64 0, .int .i64 1]) (by simp [results, Tryz.results26, go_sem, *]) rfl ⟨rfl, (Later.mk_of (by repeat (first | (with_reducible assumption) | (with_reducible exact Below.refl _ _) | (with_reducible refine Later.after ?_ _) | (with_reducible refine Later.newer ?_ _) | (with_reducible refine Below.drew ?_) | (with_reducible refine Below.setCell ?_ (by first | exact Nat.le_refl _ | exact Nat.le_add_right _ _ | omega | (simp [go_sem]; done) | (simp [go_sem]; omega)) _))))⟩

set_option maxRecDepth 100000 in
set_option maxHeartbeats 1000000 in
theorem div_r_pos (nh N b : Int) (w : World) (hb : 0 < b) (hb1 : b ≤ 9223372036854775807) (hnh : 0 ≤ nh) (e0 : IntKind.u64.wrap nh = N / 18446744073709551616) (N0 : 0 ≤ N) (N1 : N < 340282366920938463463374607431768211456) :
    Calls Tryz.prog 26 #[.agg #[.int .i64 nh, .int .u64 (N % 18446744073709551616)], .int .i64 b] w fun e w' => e = .returned (.tuple #[.agg #[.int .i64 (hiW (N / b)), .int .u64 (loW (N / b))], .int .i64 (N % b), .int .i64 0]) ∧ ∃ x : Later w, w' = x.out := by
  have o1 := fun w' => of_r 1 w' (by unfold R64; omega)
  have Ho1 := Lib.hid o1; clear o1
  have HN0 := Lib.hid N0; clear N0
  have HN1 := Lib.hid N1; clear N1
  go_enter Tryz.func26, Tryz.ntmps26
  go_wp2_with (fail)
  go_loopw [8, 9, 11, 12] (fun u v r i wr => ∃ (k : Nat) (Q T h l t : Int), k ≤ 128 ∧ i = .int .i64 k ∧ u = .int .u64 h ∧ v = .int .u64 l ∧ r = .int .u64 t ∧ 0 ≤ h ∧ h ≤ 18446744073709551615 ∧ 0 ≤ l ∧ l ≤ 18446744073709551615 ∧ 0 ≤ t ∧ t < b ∧ Hid (Bits N b Q T h l t k) ∧
      wr.cell? ⟨w.heap.size + 1 + 1, 0, none⟩ = some (.int .i64 (hiW Q)) ∧ wr.cell? ⟨w.heap.size + 1 + 1, 1, none⟩ = some (.int .u64 (loW Q)) ∧ wr.frozen? ⟨w.heap.size + 1 + 1, 0, none⟩ = false ∧ wr.frozen? ⟨w.heap.size + 1 + 1, 1, none⟩ = false ∧
      wr.cell? ⟨w.heap.size + 1, 0, none⟩ = some (.int .i64 0) ∧ wr.cell? ⟨w.heap.size + 1, 1, none⟩ = some (.int .u64 0) ∧ wr.frozen? ⟨w.heap.size + 1, 0, none⟩ = false ∧ wr.frozen? ⟨w.heap.size + 1, 1, none⟩ = false ∧
      w.heap.size + 1 + 1 < wr.heap.size ∧ w.heap.size + 1 < w.heap.size + 1 + 1 ∧ Below w.heap.size w wr)
      (fun _ _ _ i _ => 128 - (intOf i).toNat)
  case atStart =>
    have N0 := HN0.out
    have N1 := HN1.out
    exact ⟨0, 0, 0, N / 18446744073709551616, N % 18446744073709551616, 0, by omega, rfl, rfl, rfl, rfl, by omega, by omega, by omega, by omega, by omega, by omega, Lib.hid (bits_first N b hb), by simp [go_sem, W_zero, *], by simp [go_sem, W_zero, *], by simp [go_sem, *], by simp [go_sem, *], by simp [go_sem, *], by simp [go_sem, *], by simp [go_sem, *], by simp [go_sem, *], by simp [go_sem], by first | omega | (simp [go_sem, *]; done), by repeat (first | (with_reducible exact Below.refl _ _) | (with_reducible refine Later.after ?_ _) | (with_reducible refine Later.newer ?_ _) | (with_reducible refine Below.setCell ?_ (by first | exact Nat.le_refl _ | exact Nat.le_add_right _ _ | (dsimp only; omega)) _))⟩
  case round =>
    obtain ⟨k, Q, T, h, l, t, hk, rfl, rfl, rfl, rfl, h0, h1, l0, l1, t0, t1, BI, c0, c1, fz0, fz1, rc0, rc1, rf0, rf1, hq, hqw, hB⟩ := hrel
    have hwq : w.heap.size + 1 < wr.heap.size := by omega
    by_cases hlt : k < 128
    · have hd1 : 0 ≤ top63 h ∧ top63 h ≤ 1 := by unfold top63; omega
      have hd2 : 0 ≤ top63 l ∧ top63 l ≤ 1 := by unfold top63; omega
      have hu1 : h / 9223372036854775808 = top63 h := rfl
      have hu2 : l / 9223372036854775808 = top63 l := rfl
      obtain ⟨c, hc⟩ : ∃ c, top63 h = c := ⟨_, rfl⟩
      obtain ⟨d, hd⟩ : ∃ d, top63 l = d := ⟨_, rfl⟩
      rw [hc] at hu1
      rw [hd] at hu2
      obtain ⟨h2, hh2⟩ : ∃ h2, h2 = h * 2 + d - c * 18446744073709551616 := ⟨_, rfl⟩
      obtain ⟨l2, hl2⟩ : ∃ l2, l2 = l * 2 - d * 18446744073709551616 := ⟨_, rfl⟩
      have e1 : IntKind.u64.wrap (IntKind.u64.wrap (h * 2) + d) = h2 := by simp only [IntKind.wrap_u64]; omega
      have e2 : IntKind.u64.wrap (l * 2) = l2 := by simp only [IntKind.wrap_u64]; omega
      have G' := bits_next N b Q T h l t _ _ c d k BI.out hc hd hh2 hl2 hb t0 t1 (by omega) (by omega)
      have p0 : 0 ≤ h2 := by omega
      have p1 : h2 ≤ 18446744073709551615 := by omega
      have p2 : 0 ≤ l2 := by omega
      have p3 : l2 ≤ 18446744073709551615 := by omega
      clear hh2 hl2 hu1 hu2
      rw [hc] at hd1
      rw [hd] at hd2
      obtain ⟨hc0, hc1⟩ := hd1
      obtain ⟨hd0, hd1⟩ := hd2
      by_cases hge : b ≤ t * 2 + c
      · have G := Lib.hid (G'.2 hge)
        clear G'
        go_wp2_with (first | (go_at_call 29; refine (add_r _ _ _).mono ?_; rintro e _ ⟨rfl, y, rfl⟩))
        have f0 : w.heap.size + 1 + 1 < y.out.heap.size := Later.lt y _ hq
        have f1 : w.heap.size + 1 < y.out.heap.size := Later.lt y _ hwq
        refine wp_region_later_tail 3 (by kernel_rfl) (by kernel_rfl) ?_
        simp only [List.take_succ_cons, List.take_zero, List.drop_succ_cons, List.drop_zero]
        repeat (go_big_quiet_step ((first | (go_at_call 30; exact Later.call _ (Ho1.out _)) | (go_at_call 29; exact Later.call _ (add_r _ _ _)))))
        refine wpQuiet_nil ?_
        intro z
        have g0 : w.heap.size + 1 + 1 < z.out.heap.size := Later.lt z _ (by rw [World.size_setCell, World.size_setCell]; exact f0)
        have g1 : w.heap.size + 1 < z.out.heap.size := Later.lt z _ (by rw [World.size_setCell, World.size_setCell]; exact f1)
        go_wp2
        go_roundw
        case rel => exact ⟨k + 1, _, _, _, _, _, by omega, by go_num, rfl, rfl, rfl, by omega, by omega, by omega, by omega, by omega, by omega, G, by simp [go_sem, *], by simp [go_sem, *], by simp [go_sem, *], by simp [go_sem, *], by simp [go_sem, *], by simp [go_sem, *], by simp [go_sem, *], by simp [go_sem, *], by first | (simp [go_sem, *]; done) | (simp [go_sem, *]; omega), hqw, by repeat (first | (with_reducible assumption) | (with_reducible refine Later.after ?_ _) | (with_reducible refine Below.setCell ?_ (by first | exact Nat.le_refl _ | exact Nat.le_add_right _ _ | (dsimp only; omega)) _))⟩
        case measure => simp [intOf]; omega
      · have G := Lib.hid (G'.1 (by omega))
        clear G'
        go_wp2_with (first | (go_at_call 29; refine (add_r _ _ _).mono ?_; rintro e _ ⟨rfl, y, rfl⟩))
        have f0 : w.heap.size + 1 + 1 < y.out.heap.size := Later.lt y _ hq
        have f1 : w.heap.size + 1 < y.out.heap.size := Later.lt y _ hwq
        go_roundw
        case rel => exact ⟨k + 1, _, _, _, _, _, by omega, by go_num, rfl, rfl, rfl, by omega, by omega, by omega, by omega, by omega, by omega, G, by simp [go_sem, *], by simp [go_sem, *], by simp [go_sem, *], by simp [go_sem, *], by simp [go_sem, *], by simp [go_sem, *], by simp [go_sem, *], by simp [go_sem, *], by first | (simp [go_sem, *]; done) | (simp [go_sem, *]; omega), hqw, by repeat (first | (with_reducible assumption) | (with_reducible refine Later.after ?_ _) | (with_reducible refine Below.setCell ?_ (by first | exact Nat.le_refl _ | exact Nat.le_add_right _ _ | (dsimp only; omega)) _))⟩
        case measure => simp [intOf]; omega
    · obtain rfl : k = 128 := by omega
      have LB := bits_last N b Q T h l t BI.out h0 h1 l0 l1
      have HQ := Lib.hid LB.1
      have HT := Lib.hid LB.2
      clear LB
      have HB := Lib.hid hB
      clear hB e0
      go_wp2
      have hB := HB.out
      rw [← HQ.out, ← HT.out]
      exact bodyPost_ret (v := .tuple #[.agg #[.int .i64 (hiW Q), .int .u64 (loW Q)], .int .i64 t, .int .i64 0]) (by simp [results, Tryz.results26, go_sem, *]) rfl ⟨rfl, (Later.mk_of (by repeat (first | (with_reducible assumption) | (with_reducible exact Below.refl _ _) | (with_reducible refine Later.after ?_ _) | (with_reducible refine Later.newer ?_ _) | (with_reducible refine Below.drew ?_) | (with_reducible refine Below.setCell ?_ (by first | exact Nat.le_refl _ | exact Nat.le_add_right _ _ | omega | (simp [go_sem]; done) | (simp [go_sem]; omega)) _))))⟩


set_option maxRecDepth 100000 in
set_option maxHeartbeats 1000000 in
theorem div_r_neg0 (nh nl mh N b ph pl oh ol th tl : Int) (w : World) (hb : 0 < b) (hb1 : b ≤ 9223372036854775807) (hnh : nh < 0) (hn : ∀ w', Calls Tryz.prog 49 #[.agg #[.int .i64 nh, .int .u64 nl]] w' fun e w'' => e = .returned (.agg #[.int .i64 mh, .int .u64 (N % 18446744073709551616)]) ∧ ∃ x : Later w', w'' = x.out) (e0 : IntKind.u64.wrap mh = N / 18446744073709551616) (N0 : 0 ≤ N) (N1 : N < 340282366920938463463374607431768211456)
    (nq : ∀ w', Calls Tryz.prog 49 #[.agg #[.int .i64 (hiW (N / b)), .int .u64 (loW (N / b))]] w' fun e w'' => e = .returned (.agg #[.int .i64 ph, .int .u64 pl]) ∧ ∃ x : Later w', w'' = x.out) (hr : N % b = 0) :
    Calls Tryz.prog 26 #[.agg #[.int .i64 nh, .int .u64 nl], .int .i64 b] w fun e w' => e = .returned (.tuple #[.agg #[.int .i64 ph, .int .u64 pl], .int .i64 0, .int .i64 0]) ∧ ∃ x : Later w, w' = x.out := by
  have o1 := fun w' => of_r 1 w' (by unfold R64; omega)
  have Ho1 := Lib.hid o1; clear o1
  have HN0 := Lib.hid N0; clear N0
  have HN1 := Lib.hid N1; clear N1
  have Hhn := Lib.hid hn; clear hn
  have Hnq := Lib.hid nq; clear nq
  have Hhr := Lib.hid hr; clear hr
  go_enter Tryz.func26, Tryz.ntmps26
  go_wp2_with (first | (go_at_call 49; refine (Hhn.out _).mono ?_; rintro e _ ⟨rfl, x, rfl⟩))
  go_loopw [8, 9, 11, 12] (fun u v r i wr => ∃ (k : Nat) (Q T h l t : Int), k ≤ 128 ∧ i = .int .i64 k ∧ u = .int .u64 h ∧ v = .int .u64 l ∧ r = .int .u64 t ∧ 0 ≤ h ∧ h ≤ 18446744073709551615 ∧ 0 ≤ l ∧ l ≤ 18446744073709551615 ∧ 0 ≤ t ∧ t < b ∧ Hid (Bits N b Q T h l t k) ∧
      wr.cell? ⟨x.out.heap.size, 0, none⟩ = some (.int .i64 (hiW Q)) ∧ wr.cell? ⟨x.out.heap.size, 1, none⟩ = some (.int .u64 (loW Q)) ∧ wr.frozen? ⟨x.out.heap.size, 0, none⟩ = false ∧ wr.frozen? ⟨x.out.heap.size, 1, none⟩ = false ∧
      wr.cell? ⟨w.heap.size + 1, 0, none⟩ = some (.int .i64 0) ∧ wr.cell? ⟨w.heap.size + 1, 1, none⟩ = some (.int .u64 0) ∧ wr.frozen? ⟨w.heap.size + 1, 0, none⟩ = false ∧ wr.frozen? ⟨w.heap.size + 1, 1, none⟩ = false ∧
      x.out.heap.size < wr.heap.size ∧ w.heap.size + 1 < x.out.heap.size ∧ Below w.heap.size w wr)
      (fun _ _ _ i _ => 128 - (intOf i).toNat)
  case atStart =>
    have N0 := HN0.out
    have N1 := HN1.out
    exact ⟨0, 0, 0, N / 18446744073709551616, N % 18446744073709551616, 0, by omega, rfl, rfl, rfl, rfl, by omega, by omega, by omega, by omega, by omega, by omega, Lib.hid (bits_first N b hb), by simp [go_sem, W_zero, *], by simp [go_sem, W_zero, *], by simp [go_sem, *], by simp [go_sem, *], by simp [go_sem, *], by simp [go_sem, *], by simp [go_sem, *], by simp [go_sem, *], by simp [go_sem], by first | omega | (simp [go_sem, *]; done), by repeat (first | (with_reducible exact Below.refl _ _) | (with_reducible refine Later.after ?_ _) | (with_reducible refine Later.newer ?_ _) | (with_reducible refine Below.setCell ?_ (by first | exact Nat.le_refl _ | exact Nat.le_add_right _ _ | (dsimp only; omega)) _))⟩
  case round =>
    obtain ⟨k, Q, T, h, l, t, hk, rfl, rfl, rfl, rfl, h0, h1, l0, l1, t0, t1, BI, c0, c1, fz0, fz1, rc0, rc1, rf0, rf1, hq, hqw, hB⟩ := hrel
    have hwq : w.heap.size + 1 < wr.heap.size := by omega
    by_cases hlt : k < 128
    · have hd1 : 0 ≤ top63 h ∧ top63 h ≤ 1 := by unfold top63; omega
      have hd2 : 0 ≤ top63 l ∧ top63 l ≤ 1 := by unfold top63; omega
      have hu1 : h / 9223372036854775808 = top63 h := rfl
      have hu2 : l / 9223372036854775808 = top63 l := rfl
      obtain ⟨c, hc⟩ : ∃ c, top63 h = c := ⟨_, rfl⟩
      obtain ⟨d, hd⟩ : ∃ d, top63 l = d := ⟨_, rfl⟩
      rw [hc] at hu1
      rw [hd] at hu2
      obtain ⟨h2, hh2⟩ : ∃ h2, h2 = h * 2 + d - c * 18446744073709551616 := ⟨_, rfl⟩
      obtain ⟨l2, hl2⟩ : ∃ l2, l2 = l * 2 - d * 18446744073709551616 := ⟨_, rfl⟩
      have e1 : IntKind.u64.wrap (IntKind.u64.wrap (h * 2) + d) = h2 := by simp only [IntKind.wrap_u64]; omega
      have e2 : IntKind.u64.wrap (l * 2) = l2 := by simp only [IntKind.wrap_u64]; omega
      have G' := bits_next N b Q T h l t _ _ c d k BI.out hc hd hh2 hl2 hb t0 t1 (by omega) (by omega)
      have p0 : 0 ≤ h2 := by omega
      have p1 : h2 ≤ 18446744073709551615 := by omega
      have p2 : 0 ≤ l2 := by omega
      have p3 : l2 ≤ 18446744073709551615 := by omega
      clear hh2 hl2 hu1 hu2
      rw [hc] at hd1
      rw [hd] at hd2
      obtain ⟨hc0, hc1⟩ := hd1
      obtain ⟨hd0, hd1⟩ := hd2
      by_cases hge : b ≤ t * 2 + c
      · have G := Lib.hid (G'.2 hge)
        clear G'
        go_wp2_with (first | (go_at_call 29; refine (add_r _ _ _).mono ?_; rintro e _ ⟨rfl, y, rfl⟩))
        have f0 : x.out.heap.size < y.out.heap.size := Later.lt y _ hq
        have f1 : w.heap.size + 1 < y.out.heap.size := Later.lt y _ hwq
        refine wp_region_later_tail 3 (by kernel_rfl) (by kernel_rfl) ?_
        simp only [List.take_succ_cons, List.take_zero, List.drop_succ_cons, List.drop_zero]
        repeat (go_big_quiet_step ((first | (go_at_call 30; exact Later.call _ (Ho1.out _)) | (go_at_call 29; exact Later.call _ (add_r _ _ _)))))
        refine wpQuiet_nil ?_
        intro z
        have g0 : x.out.heap.size < z.out.heap.size := Later.lt z _ (by rw [World.size_setCell, World.size_setCell]; exact f0)
        have g1 : w.heap.size + 1 < z.out.heap.size := Later.lt z _ (by rw [World.size_setCell, World.size_setCell]; exact f1)
        go_wp2
        go_roundw
        case rel => exact ⟨k + 1, _, _, _, _, _, by omega, by go_num, rfl, rfl, rfl, by omega, by omega, by omega, by omega, by omega, by omega, G, by simp [go_sem, *], by simp [go_sem, *], by simp [go_sem, *], by simp [go_sem, *], by simp [go_sem, *], by simp [go_sem, *], by simp [go_sem, *], by simp [go_sem, *], by first | (simp [go_sem, *]; done) | (simp [go_sem, *]; omega), hqw, by repeat (first | (with_reducible assumption) | (with_reducible refine Later.after ?_ _) | (with_reducible refine Below.setCell ?_ (by first | exact Nat.le_refl _ | exact Nat.le_add_right _ _ | (dsimp only; omega)) _))⟩
        case measure => simp [intOf]; omega
      · have G := Lib.hid (G'.1 (by omega))
        clear G'
        go_wp2_with (first | (go_at_call 29; refine (add_r _ _ _).mono ?_; rintro e _ ⟨rfl, y, rfl⟩))
        have f0 : x.out.heap.size < y.out.heap.size := Later.lt y _ hq
        have f1 : w.heap.size + 1 < y.out.heap.size := Later.lt y _ hwq
        go_roundw
        case rel => exact ⟨k + 1, _, _, _, _, _, by omega, by go_num, rfl, rfl, rfl, by omega, by omega, by omega, by omega, by omega, by omega, G, by simp [go_sem, *], by simp [go_sem, *], by simp [go_sem, *], by simp [go_sem, *], by simp [go_sem, *], by simp [go_sem, *], by simp [go_sem, *], by simp [go_sem, *], by first | (simp [go_sem, *]; done) | (simp [go_sem, *]; omega), hqw, by repeat (first | (with_reducible assumption) | (with_reducible refine Later.after ?_ _) | (with_reducible refine Below.setCell ?_ (by first | exact Nat.le_refl _ | exact Nat.le_add_right _ _ | (dsimp only; omega)) _))⟩
        case measure => simp [intOf]; omega
    · obtain rfl : k = 128 := by omega
      have LB := bits_last N b Q T h l t BI.out h0 h1 l0 l1
      have HQ := Lib.hid LB.1
      have HT := Lib.hid LB.2
      clear LB
      have nq := Hnq.out
      rw [← HQ.out] at nq
      clear Hnq
      have Hnq := Lib.hid nq
      clear nq
      obtain rfl : t = 0 := by rw [HT.out, Hhr.out]
      have HB := Lib.hid hB
      clear hB e0
      go_wp2_with (first | (go_at_call 49; refine (Hnq.out _).mono ?_; rintro e _ ⟨rfl, y, rfl⟩; have f0 : x.out.heap.size < y.out.heap.size := Later.lt y _ (by assumption); have f1 : w.heap.size + 1 < y.out.heap.size := Later.lt y _ (by assumption)))
      have hB := HB.out
      try rw [← HT.out]
      exact bodyPost_ret (v := .tuple #[.agg #[.int .i64 ph, .int .u64 pl], .int .i64 0, .int .i64 0]) (by simp [results, Tryz.results26, go_sem, *]) rfl ⟨rfl, (Later.mk_of (by repeat (first | (with_reducible assumption) | (with_reducible exact Below.refl _ _) | (with_reducible refine Later.after ?_ _) | (with_reducible refine Later.newer ?_ _) | (with_reducible refine Below.drew ?_) | (with_reducible refine Below.setCell ?_ (by first | exact Nat.le_refl _ | exact Nat.le_add_right _ _ | omega | (simp [go_sem]; done) | (simp [go_sem]; omega)) _))))⟩


set_option maxRecDepth 100000 in
set_option maxHeartbeats 1000000 in
theorem div_r_neg1 (nh nl mh N b ph pl oh ol th tl : Int) (w : World) (hb : 0 < b) (hb1 : b ≤ 9223372036854775807) (hnh : nh < 0) (hn : ∀ w', Calls Tryz.prog 49 #[.agg #[.int .i64 nh, .int .u64 nl]] w' fun e w'' => e = .returned (.agg #[.int .i64 mh, .int .u64 (N % 18446744073709551616)]) ∧ ∃ x : Later w', w'' = x.out) (e0 : IntKind.u64.wrap mh = N / 18446744073709551616) (N0 : 0 ≤ N) (N1 : N < 340282366920938463463374607431768211456)
    (nq : ∀ w', Calls Tryz.prog 49 #[.agg #[.int .i64 (hiW (N / b)), .int .u64 (loW (N / b))]] w' fun e w'' => e = .returned (.agg #[.int .i64 ph, .int .u64 pl]) ∧ ∃ x : Later w', w'' = x.out) (hr : 0 < N % b) (oo : ∀ w', Calls Tryz.prog 30 #[.int .i64 1] w' fun e w'' => e = .returned (.agg #[.int .i64 oh, .int .u64 ol]) ∧ ∃ x : Later w', w'' = x.out) (sb : ∀ w', Calls Tryz.prog 50 #[.agg #[.int .i64 ph, .int .u64 pl], .agg #[.int .i64 oh, .int .u64 ol]] w' fun e w'' => e = .returned (.agg #[.int .i64 th, .int .u64 tl]) ∧ ∃ x : Later w', w'' = x.out) :
    Calls Tryz.prog 26 #[.agg #[.int .i64 nh, .int .u64 nl], .int .i64 b] w fun e w' => e = .returned (.tuple #[.agg #[.int .i64 th, .int .u64 tl], .int .i64 (b - N % b), .int .i64 0]) ∧ ∃ x : Later w, w' = x.out := by
  have o1 := fun w' => of_r 1 w' (by unfold R64; omega)
  have Ho1 := Lib.hid o1; clear o1
  have HN0 := Lib.hid N0; clear N0
  have HN1 := Lib.hid N1; clear N1
  have Hhn := Lib.hid hn; clear hn
  have Hnq := Lib.hid nq; clear nq
  have Hhr := Lib.hid hr; clear hr
  have Hoo := Lib.hid oo; clear oo
  have Hsb := Lib.hid sb; clear sb
  go_enter Tryz.func26, Tryz.ntmps26
  go_wp2_with (first | (go_at_call 49; refine (Hhn.out _).mono ?_; rintro e _ ⟨rfl, x, rfl⟩))
  go_loopw [8, 9, 11, 12] (fun u v r i wr => ∃ (k : Nat) (Q T h l t : Int), k ≤ 128 ∧ i = .int .i64 k ∧ u = .int .u64 h ∧ v = .int .u64 l ∧ r = .int .u64 t ∧ 0 ≤ h ∧ h ≤ 18446744073709551615 ∧ 0 ≤ l ∧ l ≤ 18446744073709551615 ∧ 0 ≤ t ∧ t < b ∧ Hid (Bits N b Q T h l t k) ∧
      wr.cell? ⟨x.out.heap.size, 0, none⟩ = some (.int .i64 (hiW Q)) ∧ wr.cell? ⟨x.out.heap.size, 1, none⟩ = some (.int .u64 (loW Q)) ∧ wr.frozen? ⟨x.out.heap.size, 0, none⟩ = false ∧ wr.frozen? ⟨x.out.heap.size, 1, none⟩ = false ∧
      wr.cell? ⟨w.heap.size + 1, 0, none⟩ = some (.int .i64 0) ∧ wr.cell? ⟨w.heap.size + 1, 1, none⟩ = some (.int .u64 0) ∧ wr.frozen? ⟨w.heap.size + 1, 0, none⟩ = false ∧ wr.frozen? ⟨w.heap.size + 1, 1, none⟩ = false ∧
      x.out.heap.size < wr.heap.size ∧ w.heap.size + 1 < x.out.heap.size ∧ Below w.heap.size w wr)
      (fun _ _ _ i _ => 128 - (intOf i).toNat)
  case atStart =>
    have N0 := HN0.out
    have N1 := HN1.out
    exact ⟨0, 0, 0, N / 18446744073709551616, N % 18446744073709551616, 0, by omega, rfl, rfl, rfl, rfl, by omega, by omega, by omega, by omega, by omega, by omega, Lib.hid (bits_first N b hb), by simp [go_sem, W_zero, *], by simp [go_sem, W_zero, *], by simp [go_sem, *], by simp [go_sem, *], by simp [go_sem, *], by simp [go_sem, *], by simp [go_sem, *], by simp [go_sem, *], by simp [go_sem], by first | omega | (simp [go_sem, *]; done), by repeat (first | (with_reducible exact Below.refl _ _) | (with_reducible refine Later.after ?_ _) | (with_reducible refine Later.newer ?_ _) | (with_reducible refine Below.setCell ?_ (by first | exact Nat.le_refl _ | exact Nat.le_add_right _ _ | (dsimp only; omega)) _))⟩
  case round =>
    obtain ⟨k, Q, T, h, l, t, hk, rfl, rfl, rfl, rfl, h0, h1, l0, l1, t0, t1, BI, c0, c1, fz0, fz1, rc0, rc1, rf0, rf1, hq, hqw, hB⟩ := hrel
    have hwq : w.heap.size + 1 < wr.heap.size := by omega
    by_cases hlt : k < 128
    · have hd1 : 0 ≤ top63 h ∧ top63 h ≤ 1 := by unfold top63; omega
      have hd2 : 0 ≤ top63 l ∧ top63 l ≤ 1 := by unfold top63; omega
      have hu1 : h / 9223372036854775808 = top63 h := rfl
      have hu2 : l / 9223372036854775808 = top63 l := rfl
      obtain ⟨c, hc⟩ : ∃ c, top63 h = c := ⟨_, rfl⟩
      obtain ⟨d, hd⟩ : ∃ d, top63 l = d := ⟨_, rfl⟩
      rw [hc] at hu1
      rw [hd] at hu2
      obtain ⟨h2, hh2⟩ : ∃ h2, h2 = h * 2 + d - c * 18446744073709551616 := ⟨_, rfl⟩
      obtain ⟨l2, hl2⟩ : ∃ l2, l2 = l * 2 - d * 18446744073709551616 := ⟨_, rfl⟩
      have e1 : IntKind.u64.wrap (IntKind.u64.wrap (h * 2) + d) = h2 := by simp only [IntKind.wrap_u64]; omega
      have e2 : IntKind.u64.wrap (l * 2) = l2 := by simp only [IntKind.wrap_u64]; omega
      have G' := bits_next N b Q T h l t _ _ c d k BI.out hc hd hh2 hl2 hb t0 t1 (by omega) (by omega)
      have p0 : 0 ≤ h2 := by omega
      have p1 : h2 ≤ 18446744073709551615 := by omega
      have p2 : 0 ≤ l2 := by omega
      have p3 : l2 ≤ 18446744073709551615 := by omega
      clear hh2 hl2 hu1 hu2
      rw [hc] at hd1
      rw [hd] at hd2
      obtain ⟨hc0, hc1⟩ := hd1
      obtain ⟨hd0, hd1⟩ := hd2
      by_cases hge : b ≤ t * 2 + c
      · have G := Lib.hid (G'.2 hge)
        clear G'
        go_wp2_with (first | (go_at_call 29; refine (add_r _ _ _).mono ?_; rintro e _ ⟨rfl, y, rfl⟩))
        have f0 : x.out.heap.size < y.out.heap.size := Later.lt y _ hq
        have f1 : w.heap.size + 1 < y.out.heap.size := Later.lt y _ hwq
        refine wp_region_later_tail 3 (by kernel_rfl) (by kernel_rfl) ?_
        simp only [List.take_succ_cons, List.take_zero, List.drop_succ_cons, List.drop_zero]
        repeat (go_big_quiet_step ((first | (go_at_call 30; exact Later.call _ (Ho1.out _)) | (go_at_call 29; exact Later.call _ (add_r _ _ _)))))
        refine wpQuiet_nil ?_
        intro z
        have g0 : x.out.heap.size < z.out.heap.size := Later.lt z _ (by rw [World.size_setCell, World.size_setCell]; exact f0)
        have g1 : w.heap.size + 1 < z.out.heap.size := Later.lt z _ (by rw [World.size_setCell, World.size_setCell]; exact f1)
        go_wp2
        go_roundw
        case rel => exact ⟨k + 1, _, _, _, _, _, by omega, by go_num, rfl, rfl, rfl, by omega, by omega, by omega, by omega, by omega, by omega, G, by simp [go_sem, *], by simp [go_sem, *], by simp [go_sem, *], by simp [go_sem, *], by simp [go_sem, *], by simp [go_sem, *], by simp [go_sem, *], by simp [go_sem, *], by first | (simp [go_sem, *]; done) | (simp [go_sem, *]; omega), hqw, by repeat (first | (with_reducible assumption) | (with_reducible refine Later.after ?_ _) | (with_reducible refine Below.setCell ?_ (by first | exact Nat.le_refl _ | exact Nat.le_add_right _ _ | (dsimp only; omega)) _))⟩
        case measure => simp [intOf]; omega
      · have G := Lib.hid (G'.1 (by omega))
        clear G'
        go_wp2_with (first | (go_at_call 29; refine (add_r _ _ _).mono ?_; rintro e _ ⟨rfl, y, rfl⟩))
        have f0 : x.out.heap.size < y.out.heap.size := Later.lt y _ hq
        have f1 : w.heap.size + 1 < y.out.heap.size := Later.lt y _ hwq
        go_roundw
        case rel => exact ⟨k + 1, _, _, _, _, _, by omega, by go_num, rfl, rfl, rfl, by omega, by omega, by omega, by omega, by omega, by omega, G, by simp [go_sem, *], by simp [go_sem, *], by simp [go_sem, *], by simp [go_sem, *], by simp [go_sem, *], by simp [go_sem, *], by simp [go_sem, *], by simp [go_sem, *], by first | (simp [go_sem, *]; done) | (simp [go_sem, *]; omega), hqw, by repeat (first | (with_reducible assumption) | (with_reducible refine Later.after ?_ _) | (with_reducible refine Below.setCell ?_ (by first | exact Nat.le_refl _ | exact Nat.le_add_right _ _ | (dsimp only; omega)) _))⟩
        case measure => simp [intOf]; omega
    · obtain rfl : k = 128 := by omega
      have LB := bits_last N b Q T h l t BI.out h0 h1 l0 l1
      have HQ := Lib.hid LB.1
      have HT := Lib.hid LB.2
      clear LB
      have nq := Hnq.out
      rw [← HQ.out] at nq
      clear Hnq
      have Hnq := Lib.hid nq
      clear nq
      have tp : 0 < t := by rw [HT.out]; exact Hhr.out
      have HB := Lib.hid hB
      clear hB e0
      go_wp2_with (first | (go_at_call 49; refine (Hnq.out _).mono ?_; rintro e _ ⟨rfl, y, rfl⟩; have f0 : x.out.heap.size < y.out.heap.size := Later.lt y _ (by assumption); have f1 : w.heap.size + 1 < y.out.heap.size := Later.lt y _ (by assumption)) | (go_at_call 30; refine (Hoo.out _).mono ?_; rintro e _ ⟨rfl, y, rfl⟩; have f0 : x.out.heap.size < y.out.heap.size := Later.lt y _ (by assumption); have f1 : w.heap.size + 1 < y.out.heap.size := Later.lt y _ (by assumption)) | (go_at_call 50; refine (Hsb.out _).mono ?_; rintro e _ ⟨rfl, y, rfl⟩; have f0 : x.out.heap.size < y.out.heap.size := Later.lt y _ (by assumption); have f1 : w.heap.size + 1 < y.out.heap.size := Later.lt y _ (by assumption)))
      have hB := HB.out
      try rw [← HT.out]
      exact bodyPost_ret (v := .tuple #[.agg #[.int .i64 th, .int .u64 tl], .int .i64 (b - t), .int .i64 0]) (by simp [results, Tryz.results26, go_sem, *]) rfl ⟨rfl, (Later.mk_of (by repeat (first | (with_reducible assumption) | (with_reducible exact Below.refl _ _) | (with_reducible refine Later.after ?_ _) | (with_reducible refine Later.newer ?_ _) | (with_reducible refine Below.drew ?_) | (with_reducible refine Below.setCell ?_ (by first | exact Nat.le_refl _ | exact Nat.le_add_right _ _ | omega | (simp [go_sem]; done) | (simp [go_sem]; omega)) _))))⟩

end Go.Proofs.YtjmagehfkcnjjaaGreatDoor
