/-
  What is near; which segments are meant (the laws' own tests, of layers 9 and 10).
-/
import Derived.Test.YtcdnekhpeghkiaaTQ
import Derived.Test.YtcdnekhpeghkiaaKC
import Derived.Test.YtcdnekhpeghkiaaKB
namespace Go.Proofs.Ytcdnekhpeghkiaa
set_option linter.unusedVariables false
open Go.RowKit

def nrB (n : Int) : Bool := decide (-268435456 ≤ n) && decide (n ≤ 268435456)
theorem nrB_iff (n : Int) : nrB n = true ↔ -268435456 ≤ n ∧ n ≤ 268435456 := by unfold nrB; simp
/-- point i is near, and nought if it is none of the segment's -/
def ptB (s : En) (i : Nat) : Bool := nrB (s (2 * i)) && nrB (s (2 * i + 1)) && (decide ((i : Int) < s 8) || (decide (s (2 * i) = 0) && decide (s (2 * i + 1) = 0)))
def goodB (s : En) : Bool := decide (2 ≤ s 8) && decide (s 8 ≤ 4) && (ptB s 0 && ptB s 1 && ptB s 2 && ptB s 3)
theorem goodB_of (s : En) (h2 : 2 ≤ s 8) (h4 : s 8 ≤ 4) (h : ∀ j, j < 4 → ptB s j = true) : goodB s = true := by
  simp [goodB, h2, h4, h 0 (by omega), h 1 (by omega), h 2 (by omega), h 3 (by omega)]
theorem goodB_no (s : En) (j : Nat) (hj : j < 4) (h : ptB s j = false) : goodB s = false := by
  have : j = 0 ∨ j = 1 ∨ j = 2 ∨ j = 3 := by omega
  rcases this with rfl | rfl | rfl | rfl <;> simp [goodB, h]
theorem goodB_good (s : En) (h : goodB s = true) (h9 : s 9 = 0) : GoodE s := by
  unfold goodB ptB at h
  simp only [Bool.and_eq_true, decide_eq_true_eq, nrB_iff] at h
  obtain ⟨⟨h2, h4⟩, ⟨⟨⟨⟨a0, b0⟩, _⟩, ⟨a1, b1⟩, _⟩, ⟨a2, b2⟩, _⟩, ⟨a3, b3⟩, _⟩ := h
  refine ⟨by omega, by omega, by omega, fun i hi => ?_⟩
  have : i = 0 ∨ i = 1 ∨ i = 2 ∨ i = 3 ∨ i = 4 ∨ i = 5 ∨ i = 6 ∨ i = 7 := by omega
  rcases this with rfl | rfl | rfl | rfl | rfl | rfl | rfl | rfl
  · exact a0
  · exact b0
  · exact a1
  · exact b1
  · exact a2
  · exact b2
  · exact a3
  · exact b3


set_option maxRecDepth 100000 in
set_option maxHeartbeats 400000 in
theorem nr_yes (n : Int) (w : World)
    (h1 : -268435456 ≤ n) (h2 : n ≤ 268435456) :
    Calls Try.prog 32 #[.int .i64 n] w fun e w' => e = .returned (.bool true) ∧ ∃ x : Later w, w' = x.out := by
  skip
  go_enter Try.func32, Try.ntmps32
  go_wp2_with (fail)
  exact bodyPost_ret (v := .bool true) (by simp [results, Try.results32, go_sem, *]) rfl ⟨rfl, (Later.mk_of (by repeat (first | (with_reducible assumption) | (with_reducible exact Below.refl _ _) | (with_reducible refine Later.after ?_ _) | (with_reducible refine Later.newer ?_ _) | (with_reducible refine Below.drew ?_) | (with_reducible refine Below.setCell ?_ (by first | exact Nat.le_refl _ | exact Nat.le_add_right _ _ | omega | (simp [go_sem]; done) | (simp [go_sem]; omega)) _))))⟩


set_option maxRecDepth 100000 in
set_option maxHeartbeats 400000 in
theorem nr_lo (n : Int) (w : World)
    (h1 : n < -268435456) :
    Calls Try.prog 32 #[.int .i64 n] w fun e w' => e = .returned (.bool false) ∧ ∃ x : Later w, w' = x.out := by
  skip
  go_enter Try.func32, Try.ntmps32
  go_wp2_with (fail)
  exact bodyPost_ret (v := .bool false) (by simp [results, Try.results32, go_sem, *]) rfl ⟨rfl, (Later.mk_of (by repeat (first | (with_reducible assumption) | (with_reducible exact Below.refl _ _) | (with_reducible refine Later.after ?_ _) | (with_reducible refine Later.newer ?_ _) | (with_reducible refine Below.drew ?_) | (with_reducible refine Below.setCell ?_ (by first | exact Nat.le_refl _ | exact Nat.le_add_right _ _ | omega | (simp [go_sem]; done) | (simp [go_sem]; omega)) _))))⟩


set_option maxRecDepth 100000 in
set_option maxHeartbeats 400000 in
theorem nr_hi (n : Int) (w : World)
    (h1 : -268435456 ≤ n) (h2 : 268435456 < n) :
    Calls Try.prog 32 #[.int .i64 n] w fun e w' => e = .returned (.bool false) ∧ ∃ x : Later w, w' = x.out := by
  skip
  go_enter Try.func32, Try.ntmps32
  go_wp2_with (fail)
  exact bodyPost_ret (v := .bool false) (by simp [results, Try.results32, go_sem, *]) rfl ⟨rfl, (Later.mk_of (by repeat (first | (with_reducible assumption) | (with_reducible exact Below.refl _ _) | (with_reducible refine Later.after ?_ _) | (with_reducible refine Later.newer ?_ _) | (with_reducible refine Below.drew ?_) | (with_reducible refine Below.setCell ?_ (by first | exact Nat.le_refl _ | exact Nat.le_add_right _ _ | omega | (simp [go_sem]; done) | (simp [go_sem]; omega)) _))))⟩


theorem nr_c (n : Int) (w : World) : Calls Try.prog 32 #[.int .i64 n] w fun e w' => e = .returned (.bool (nrB n)) ∧ ∃ x : Later w, w' = x.out := by
  unfold nrB
  by_cases h1 : -268435456 ≤ n
  · by_cases h2 : n ≤ 268435456
    · simpa [h1, h2] using nr_yes n w h1 h2
    · simpa [h1, h2] using nr_hi n w h1 (by omega)
  · simpa [h1] using nr_lo n w (by omega)


set_option maxRecDepth 100000 in
set_option maxHeartbeats 400000 in
theorem gd_lo (s : En) (w : World)
    (h : decide (s 8 < 2) = true) :
    Calls Try.prog 11 #[.agg #[.int .i64 (s 0), .int .i64 (s 1), .int .i64 (s 2), .int .i64 (s 3), .int .i64 (s 4), .int .i64 (s 5), .int .i64 (s 6), .int .i64 (s 7), .int .i64 (s 8)]] w fun e w' => e = .returned (.bool false) ∧ ∃ x : Later w, w' = x.out := by
  skip
  go_enter Try.func11, Try.ntmps11
  go_wp2_with (fail)
  exact bodyPost_ret (v := .bool false) (by simp [results, Try.results11, go_sem, *]) rfl ⟨rfl, (Later.mk_of (by repeat (first | (with_reducible assumption) | (with_reducible exact Below.refl _ _) | (with_reducible refine Later.after ?_ _) | (with_reducible refine Later.newer ?_ _) | (with_reducible refine Below.drew ?_) | (with_reducible refine Below.setCell ?_ (by first | exact Nat.le_refl _ | exact Nat.le_add_right _ _ | omega | (simp [go_sem]; done) | (simp [go_sem]; omega)) _))))⟩


set_option maxRecDepth 100000 in
set_option maxHeartbeats 400000 in
theorem gd_hi (s : En) (w : World)
    (h : decide (s 8 < 2) = false) (h2 : decide (4 < s 8) = true) :
    Calls Try.prog 11 #[.agg #[.int .i64 (s 0), .int .i64 (s 1), .int .i64 (s 2), .int .i64 (s 3), .int .i64 (s 4), .int .i64 (s 5), .int .i64 (s 6), .int .i64 (s 7), .int .i64 (s 8)]] w fun e w' => e = .returned (.bool false) ∧ ∃ x : Later w, w' = x.out := by
  skip
  go_enter Try.func11, Try.ntmps11
  go_wp2_with (fail)
  exact bodyPost_ret (v := .bool false) (by simp [results, Try.results11, go_sem, *]) rfl ⟨rfl, (Later.mk_of (by repeat (first | (with_reducible assumption) | (with_reducible exact Below.refl _ _) | (with_reducible refine Later.after ?_ _) | (with_reducible refine Later.newer ?_ _) | (with_reducible refine Below.drew ?_) | (with_reducible refine Below.setCell ?_ (by first | exact Nat.le_refl _ | exact Nat.le_add_right _ _ | omega | (simp [go_sem]; done) | (simp [go_sem]; omega)) _))))⟩


set_option maxRecDepth 100000 in
set_option maxHeartbeats 2000000 in
theorem gd_mid (s : En) (w : World) (h2 : 2 ≤ s 8) (h4 : s 8 ≤ 4) : Calls Try.prog 11 #[.agg #[.int .i64 (s 0), .int .i64 (s 1), .int .i64 (s 2), .int .i64 (s 3), .int .i64 (s 4), .int .i64 (s 5), .int .i64 (s 6), .int .i64 (s 7), .int .i64 (s 8)]] w fun e w' => e = .returned (.bool (goodB s)) ∧ ∃ x : Later w, w' = x.out := by
  go_enter Try.func11, Try.ntmps11
  go_wp2
  go_loopw [3] (fun i wr => ∃ k : Nat, k ≤ 4 ∧ i = .int .i64 k ∧ Hid (∀ j, j < k → ptB s j = true) ∧ Blk wr w.heap.size 26 #[.int .i64 (s 0), .int .i64 (s 1), .int .i64 (s 2), .int .i64 (s 3), .int .i64 (s 4), .int .i64 (s 5), .int .i64 (s 6), .int .i64 (s 7), .int .i64 (s 8)] ∧ Below w.heap.size w wr) (fun i _ => 4 - (intOf i).toNat)
  case atStart => exact ⟨0, by omega, rfl, Lib.hid (fun j hj => by omega), Blk.new _ _ _, (by repeat (first | (with_reducible exact Below.refl _ _) | (with_reducible refine Later.newer ?_ _)))⟩
  case round =>
    obtain ⟨k, hk, rfl, hpre, hb, hB⟩ := hrel
    by_cases hlt : k < 4
    · have f0 : wr.cell? ⟨w.heap.size, k * 2, none⟩ = some (.int .i64 (s (2 * k))) := by
        rw [hb.cell]
        have : k = 0 ∨ k = 1 ∨ k = 2 ∨ k = 3 := by omega
        rcases this with rfl | rfl | rfl | rfl <;> rfl
      have f1 : wr.cell? ⟨w.heap.size, k * 2 + 1, none⟩ = some (.int .i64 (s (2 * k + 1))) := by
        rw [hb.cell]
        have : k = 0 ∨ k = 1 ∨ k = 2 ∨ k = 3 := by omega
        rcases this with rfl | rfl | rfl | rfl <;> rfl
      have f8 : wr.cell? ⟨w.heap.size, 8, none⟩ = some (.int .i64 (s 8)) := by rw [hb.cell]; rfl
      have lB := hb.lt
      have Hb := Lib.hid hb
      have HB := Lib.hid hB
      clear hb hB
      have c0 := fun v => nr_c (s (2 * k)) v
      have c1 := fun v => nr_c (s (2 * k + 1)) v
      cases e0 : nrB (s (2 * k))
      · rw [e0] at c0
        have Hc0 := Lib.hid c0
        clear c0 c1
        have eG : goodB s = false := goodB_no s k hlt (by simp [ptB, e0])
        have HE := Lib.hid eG
        clear eG e0
        go_wp2_with (first | (go_at_call 32; (with_reducible refine (Hc0.out _).mono ?_); rintro e _ ⟨rfl, x, rfl⟩))
        rw [HE.out]
        have hB := HB.out
        exact bodyPost_ret (v := .bool false) (by simp [results, Try.results11, go_sem, *]) rfl ⟨rfl, (Later.mk_of (by repeat (first | (with_reducible assumption) | (with_reducible exact Below.refl _ _) | (with_reducible refine Later.after ?_ _) | (with_reducible refine Later.newer ?_ _) | (with_reducible refine Below.drew ?_) | (with_reducible refine Below.setCell ?_ (by first | exact Nat.le_refl _ | exact Nat.le_add_right _ _ | omega | (simp [go_sem]; done) | (simp [go_sem]; omega)) _))))⟩
      rw [e0] at c0
      cases e1 : nrB (s (2 * k + 1))
      · rw [e1] at c1
        have Hc0 := Lib.hid c0
        have Hc1 := Lib.hid c1
        clear c0 c1
        have eG : goodB s = false := goodB_no s k hlt (by simp [ptB, e1])
        have HE := Lib.hid eG
        clear eG e0 e1
        go_wp2_with (first | (go_at_call 32; (with_reducible refine (Hc0.out _).mono ?_); rintro e _ ⟨rfl, x, rfl⟩) | (go_at_call 32; (with_reducible refine (Hc1.out _).mono ?_); rintro e _ ⟨rfl, x, rfl⟩))
        rw [HE.out]
        have hB := HB.out
        exact bodyPost_ret (v := .bool false) (by simp [results, Try.results11, go_sem, *]) rfl ⟨rfl, (Later.mk_of (by repeat (first | (with_reducible assumption) | (with_reducible exact Below.refl _ _) | (with_reducible refine Later.after ?_ _) | (with_reducible refine Later.newer ?_ _) | (with_reducible refine Below.drew ?_) | (with_reducible refine Below.setCell ?_ (by first | exact Nat.le_refl _ | exact Nat.le_add_right _ _ | omega | (simp [go_sem]; done) | (simp [go_sem]; omega)) _))))⟩
      rw [e1] at c1
      have Hc0 := Lib.hid c0
      have Hc1 := Lib.hid c1
      clear c0 c1
      by_cases hn : (k : Int) < s 8
      · have hp : ptB s k = true := by simp [ptB, e0, e1, hn]
        have HP : Hid (∀ j, j < k + 1 → ptB s j = true) := Lib.hid (fun j hj => by
          by_cases e : j = k
          · subst e; exact hp
          · exact hpre.out j (by omega))
        clear hpre hp e0 e1
        go_wp2_with (first | (go_at_call 32; (with_reducible refine (Hc0.out _).mono ?_); rintro e _ ⟨rfl, x, rfl⟩) | (go_at_call 32; (with_reducible refine (Hc1.out _).mono ?_); rintro e _ ⟨rfl, x, rfl⟩))
        go_roundw
        case rel => exact ⟨k + 1, by omega, by go_num, HP, by have := Hb.out; exact (by repeat (first | (with_reducible assumption) | (with_reducible refine Blk.later ?_ _) | (with_reducible refine Blk.drew ?_) | ((with_reducible refine Blk.new' ?_); (simp; done)) | (with_reducible refine Blk.alloc ?_ _))), by have hB := HB.out; exact (by repeat (first | (with_reducible assumption) | (with_reducible refine Later.after ?_ _)))⟩
        case measure => simp [intOf]; omega
      · have hn' : s 8 ≤ (k : Int) := by omega
        clear hn
        by_cases z0 : s (2 * k) = 0
        · by_cases z1 : s (2 * k + 1) = 0
          · have hp : ptB s k = true := by simp [ptB, z0, z1, show nrB 0 = true from by decide]
            have HP : Hid (∀ j, j < k + 1 → ptB s j = true) := Lib.hid (fun j hj => by
              by_cases e : j = k
              · subst e; exact hp
              · exact hpre.out j (by omega))
            clear hpre hp e0 e1
            rw [z0] at f0 Hc0
            rw [z1] at f1 Hc1
            clear z0 z1
            go_wp2_with (first | (go_at_call 32; (with_reducible refine (Hc0.out _).mono ?_); rintro e _ ⟨rfl, x, rfl⟩) | (go_at_call 32; (with_reducible refine (Hc1.out _).mono ?_); rintro e _ ⟨rfl, x, rfl⟩))
            go_roundw
            case rel => exact ⟨k + 1, by omega, by go_num, HP, by have := Hb.out; exact (by repeat (first | (with_reducible assumption) | (with_reducible refine Blk.later ?_ _) | (with_reducible refine Blk.drew ?_) | ((with_reducible refine Blk.new' ?_); (simp; done)) | (with_reducible refine Blk.alloc ?_ _))), by have hB := HB.out; exact (by repeat (first | (with_reducible assumption) | (with_reducible refine Later.after ?_ _)))⟩
            case measure => simp [intOf]; omega
          · have eG : goodB s = false := goodB_no s k hlt (by
              have : ¬ ((k : Int) < s 8) := by omega
              simp [ptB, this, z1])
            have HE := Lib.hid eG
            clear eG e0 e1
            rw [z0] at f0 Hc0
            clear z0
            have z1' : (s (2 * k + 1) == 0) = false := by simp [z1]
            clear z1
            go_wp2_with (first | (go_at_call 32; (with_reducible refine (Hc0.out _).mono ?_); rintro e _ ⟨rfl, x, rfl⟩) | (go_at_call 32; (with_reducible refine (Hc1.out _).mono ?_); rintro e _ ⟨rfl, x, rfl⟩))
            rw [HE.out]
            have hB := HB.out
            exact bodyPost_ret (v := .bool false) (by simp [results, Try.results11, go_sem, *]) rfl ⟨rfl, (Later.mk_of (by repeat (first | (with_reducible assumption) | (with_reducible exact Below.refl _ _) | (with_reducible refine Later.after ?_ _) | (with_reducible refine Later.newer ?_ _) | (with_reducible refine Below.drew ?_) | (with_reducible refine Below.setCell ?_ (by first | exact Nat.le_refl _ | exact Nat.le_add_right _ _ | omega | (simp [go_sem]; done) | (simp [go_sem]; omega)) _))))⟩
        · have eG : goodB s = false := goodB_no s k hlt (by
            have : ¬ ((k : Int) < s 8) := by omega
            simp [ptB, this, z0])
          have HE := Lib.hid eG
          clear eG e0 e1
          have z0' : (s (2 * k) == 0) = false := by simp [z0]
          clear z0
          go_wp2_with (first | (go_at_call 32; (with_reducible refine (Hc0.out _).mono ?_); rintro e _ ⟨rfl, x, rfl⟩) | (go_at_call 32; (with_reducible refine (Hc1.out _).mono ?_); rintro e _ ⟨rfl, x, rfl⟩))
          rw [HE.out]
          have hB := HB.out
          exact bodyPost_ret (v := .bool false) (by simp [results, Try.results11, go_sem, *]) rfl ⟨rfl, (Later.mk_of (by repeat (first | (with_reducible assumption) | (with_reducible exact Below.refl _ _) | (with_reducible refine Later.after ?_ _) | (with_reducible refine Later.newer ?_ _) | (with_reducible refine Below.drew ?_) | (with_reducible refine Below.setCell ?_ (by first | exact Nat.le_refl _ | exact Nat.le_add_right _ _ | omega | (simp [go_sem]; done) | (simp [go_sem]; omega)) _))))⟩
    · obtain rfl : k = 4 := by omega
      have eG : goodB s = true := goodB_of s h2 h4 hpre.out
      have HE := Lib.hid eG
      clear eG hpre
      go_wp2_with (fail)
      rw [HE.out]
      exact bodyPost_ret (v := .bool true) (by simp [results, Try.results11, go_sem, *]) rfl ⟨rfl, (Later.mk_of (by repeat (first | (with_reducible assumption) | (with_reducible exact Below.refl _ _) | (with_reducible refine Later.after ?_ _) | (with_reducible refine Later.newer ?_ _) | (with_reducible refine Below.drew ?_) | (with_reducible refine Below.setCell ?_ (by first | exact Nat.le_refl _ | exact Nat.le_add_right _ _ | omega | (simp [go_sem]; done) | (simp [go_sem]; omega)) _))))⟩

theorem gd_c (s : En) (w : World) : Calls Try.prog 11 #[.agg #[.int .i64 (s 0), .int .i64 (s 1), .int .i64 (s 2), .int .i64 (s 3), .int .i64 (s 4), .int .i64 (s 5), .int .i64 (s 6), .int .i64 (s 7), .int .i64 (s 8)]] w fun e w' => e = .returned (.bool (goodB s)) ∧ ∃ x : Later w, w' = x.out := by
  by_cases h2 : 2 ≤ s 8
  · by_cases h4 : s 8 ≤ 4
    · exact gd_mid s w h2 h4
    · have : goodB s = false := by simp [goodB, h4]
      rw [this]
      exact gd_hi s w (by simp; omega) (by simp; omega)
  · have : goodB s = false := by simp [goodB, h2]
    rw [this]
    exact gd_lo s w (by simp; omega)

end Go.Proofs.Ytcdnekhpeghkiaa
