/-
  The library's search in a rising slice of numbers.
-/
import Derived.Test.YtcdnekhpeghkiaaKD
namespace Go.Proofs.Ytcdnekhpeghkiaa
set_option linter.unusedVariables false
open Go.RowKit


set_option maxRecDepth 100000 in
set_option maxHeartbeats 400000 in
theorem nanC (a : Int) (w : World)
     :
    Calls Try.prog 97 #[.int .i64 a] w fun e w' => e = .returned (.bool false) ∧ ∃ x : Later w, w' = x.out := by
  skip
  go_enter Try.func97, Try.ntmps97
  go_wp2_with (fail)
  exact bodyPost_ret (v := .bool false) (by simp [results, Try.results97, go_sem, *]) rfl ⟨rfl, (Later.mk_of (by repeat (first | (with_reducible assumption) | (with_reducible exact Below.refl _ _) | (with_reducible refine Later.after ?_ _) | (with_reducible refine Later.newer ?_ _) | (with_reducible refine Below.drew ?_) | (with_reducible refine Below.setCell ?_ (by first | exact Nat.le_refl _ | exact Nat.le_add_right _ _ | omega | (simp [go_sem]; done) | (simp [go_sem]; omega)) _))))⟩


set_option maxRecDepth 100000 in
set_option maxHeartbeats 400000 in
theorem nanS (a : Int) (w : World)
     :
    Calls Try.prog 90 #[.int .i64 a] w fun e w' => e = .returned (.bool false) ∧ ∃ x : Later w, w' = x.out := by
  skip
  go_enter Try.func90, Try.ntmps90
  go_wp2_with (fail)
  exact bodyPost_ret (v := .bool false) (by simp [results, Try.results90, go_sem, *]) rfl ⟨rfl, (Later.mk_of (by repeat (first | (with_reducible assumption) | (with_reducible exact Below.refl _ _) | (with_reducible refine Later.after ?_ _) | (with_reducible refine Later.newer ?_ _) | (with_reducible refine Below.drew ?_) | (with_reducible refine Below.setCell ?_ (by first | exact Nat.le_refl _ | exact Nat.le_add_right _ _ | omega | (simp [go_sem]; done) | (simp [go_sem]; omega)) _))))⟩


set_option maxRecDepth 100000 in
set_option maxHeartbeats 400000 in
theorem less_c (a b : Int) (w : World)
     :
    Calls Try.prog 89 #[.int .i64 a, .int .i64 b] w fun e w' => e = .returned (.bool (decide (a < b))) ∧ ∃ x : Later w, w' = x.out := by
  skip
  go_enter Try.func89, Try.ntmps89
  go_wp2_with (first | (go_at_call 97; (with_reducible refine (nanC _ _).mono ?_); rintro e _ ⟨rfl, x, rfl⟩))
  exact bodyPost_ret (v := .bool (decide (a < b))) (by simp [results, Try.results89, go_sem, *]) rfl ⟨rfl, (Later.mk_of (by repeat (first | (with_reducible assumption) | (with_reducible exact Below.refl _ _) | (with_reducible refine Later.after ?_ _) | (with_reducible refine Later.newer ?_ _) | (with_reducible refine Below.drew ?_) | (with_reducible refine Below.setCell ?_ (by first | exact Nat.le_refl _ | exact Nat.le_add_right _ _ | omega | (simp [go_sem]; done) | (simp [go_sem]; omega)) _))))⟩


theorem half_nat (i j : Nat) (h : i + j ≤ 1000000) : (i : Int) ≤ ((i + j) / 2 : Nat) ∨ True := .inr trivial
set_option maxRecDepth 100000 in
set_option maxHeartbeats 2000000 in
theorem bs_c (f : Nat → Int) (t : Int) (i0 b o n c : Nat) (w : World) (hlt : b < w.heap.size) (hcl : ∀ i, i < n → w.cell? ⟨b, o + i, none⟩ = some (.int .i64 (f i))) (n9 : n ≤ 1000) (nc : n ≤ c) (h0 : i0 ≤ n) (hlo : ∀ i, i < i0 → f i < t) (hhi : ∀ i, i0 ≤ i → i < n → t ≤ f i) :
    Calls Try.prog 79 #[.slice (some ⟨b, o, none⟩) n c, .int .i64 t] w fun e w' => (∃ fd, e = .returned (.tuple #[.int .i64 i0, .bool fd])) ∧ ∃ y : Later w, w' = y.out := by
  have HC := Lib.hid hcl
  have HLO := Lib.hid hlo
  have HHI := Lib.hid hhi
  clear hcl hlo hhi
  go_enter Try.func79, Try.ntmps79
  go_wp2
  go_loopw [7, 8] (fun u v wr => ∃ (i j : Nat) (y : Later w), i ≤ i0 ∧ i0 ≤ j ∧ j ≤ n ∧ u = .int .i64 i ∧ v = .int .i64 j ∧ wr = y.out) (fun u v _ => (intOf v).toNat - (intOf u).toNat)
  case atStart => exact ⟨0, n, ⟨w, Below.refl _ _⟩, by omega, h0, by omega, rfl, rfl, rfl⟩
  case round =>
    obtain ⟨i, j, y, hi, hj, hjn, rfl, rfl, rfl⟩ := hrel
    by_cases hij : i < j
    · obtain ⟨h, hh⟩ : ∃ h, h = (i + j) / 2 := ⟨_, rfl⟩
      have q := HC.out h (by omega)
      have hd : decide (i < j) = true := by simp [hij]
      have hn : h < n := by omega
      have e1 : ((i : Int) + (j : Int)) / 2 = (h : Int) := by omega
      have hh1 : (h : Int) + 1 ≤ 1000 := by omega
      by_cases hhi : h < i0
      · have hlt := HLO.out h hhi
        have hlt2 : decide (f h < t) = true := by simp [hlt]
        have HH := Lib.hid hh
        clear hh
        go_wp2_with (first | (go_at_call 89; (with_reducible refine (less_c _ _ _).mono ?_); rintro e _ ⟨rfl, x, rfl⟩))
        go_roundw
        case rel => exact ⟨h + 1, j, ⟨x.out, y.below.trans (x.below.mono y.below.size)⟩, by omega, hj, hjn, by go_num, rfl, rfl⟩
        case measure => have := HH.out; simp [intOf]; omega
      · have hlt : ¬ f h < t := by have := HHI.out h (by omega) hn; omega
        have hlt2 : decide (f h < t) = false := by simp [hlt]
        have HH := Lib.hid hh
        clear hh
        go_wp2_with (first | (go_at_call 89; (with_reducible refine (less_c _ _ _).mono ?_); rintro e _ ⟨rfl, x, rfl⟩))
        go_roundw
        case rel => exact ⟨i, h, ⟨x.out, y.below.trans (x.below.mono y.below.size)⟩, hi, by omega, by omega, rfl, rfl, rfl⟩
        case measure => have := HH.out; simp [intOf]; omega
    · obtain rfl : i = i0 := by omega
      obtain rfl : j = i := by omega
      by_cases hjn2 : j < n
      · have q := HC.out j hjn2
        have hd : decide (j < n) = true := by simp [hjn2]
        by_cases he : f j = t
        · have he2 : (f j == t) = true := by simp [he]
          go_wp2_with (first | (go_at_call 90; (with_reducible refine (nanS _ _).mono ?_); rintro e _ ⟨rfl, x, rfl⟩))
          refine bodyPost_ret (v := .tuple #[.int .i64 j, .bool true]) (by simp [results, Try.results79, go_sem, *]) rfl ⟨⟨true, rfl⟩, Later.mk_of (by repeat (first | (with_reducible assumption) | (with_reducible exact Below.refl _ _) | (with_reducible refine Later.after ?_ _) | (with_reducible refine Later.newer ?_ _) | (with_reducible refine Below.drew ?_) | (with_reducible refine Below.setCell ?_ (by first | exact Nat.le_refl _ | exact Nat.le_add_right _ _ | omega | (simp [go_sem]; done) | (simp [go_sem]; omega)) _)))⟩
        · have he2 : (f j == t) = false := by simp [he]
          go_wp2_with (first | (go_at_call 90; (with_reducible refine (nanS _ _).mono ?_); rintro e _ ⟨rfl, x, rfl⟩))
          refine bodyPost_ret (v := .tuple #[.int .i64 j, .bool false]) (by simp [results, Try.results79, go_sem, *]) rfl ⟨⟨false, rfl⟩, Later.mk_of (by repeat (first | (with_reducible assumption) | (with_reducible exact Below.refl _ _) | (with_reducible refine Later.after ?_ _) | (with_reducible refine Later.newer ?_ _) | (with_reducible refine Below.drew ?_) | (with_reducible refine Below.setCell ?_ (by first | exact Nat.le_refl _ | exact Nat.le_add_right _ _ | omega | (simp [go_sem]; done) | (simp [go_sem]; omega)) _)))⟩
      · have hd : decide (j < n) = false := by simp; omega
        go_wp2_with (first | (go_at_call 90; (with_reducible refine (nanS _ _).mono ?_); rintro e _ ⟨rfl, x, rfl⟩))
        refine bodyPost_ret (v := .tuple #[.int .i64 j, .bool false]) (by simp [results, Try.results79, go_sem, *]) rfl ⟨⟨false, rfl⟩, Later.mk_of (by repeat (first | (with_reducible assumption) | (with_reducible exact Below.refl _ _) | (with_reducible refine Later.after ?_ _) | (with_reducible refine Later.newer ?_ _) | (with_reducible refine Below.drew ?_) | (with_reducible refine Below.setCell ?_ (by first | exact Nat.le_refl _ | exact Nat.le_add_right _ _ | omega | (simp [go_sem]; done) | (simp [go_sem]; omega)) _)))⟩
set_option maxRecDepth 100000 in
set_option maxHeartbeats 1000000 in
theorem first_c (f : Nat → Int) (t : Int) (i0 b o n c N : Nat) (w : World) (hN : N = n + 1) (hlt : b < w.heap.size) (hcl : ∀ i, i < n + 1 → w.cell? ⟨b, o + i, none⟩ = some (.int .i64 (f i))) (n1 : 1 ≤ n) (n9 : n ≤ 1000) (nc : N ≤ c) (h0 : i0 ≤ n) (hlo : ∀ i, i < i0 → f (i + 1) < t) (hhi : ∀ i, i0 ≤ i → i < n → t ≤ f (i + 1)) :
    Calls Try.prog 56 #[.slice (some ⟨b, o, none⟩) N c, .int .i64 t] w fun e w' => e = .returned (.int .i64 i0) ∧ ∃ y : Later w, w' = y.out := by
  have hc := bs_c (fun i => f (i + 1)) t i0 b (o + 1) n (c - 1) w hlt (fun i hi => by rw [Nat.add_assoc, Nat.add_comm 1 i]; exact hcl (i + 1) (by omega)) n9 (by omega) h0 hlo hhi
  have HC := Lib.hid hc
  have e1 : N - 1 = n := by omega
  have e2 : 1 ≤ N := by omega
  have c1 : (c = 1) = False := eq_false (by omega)
  have c2 : (c - 1 = 0) = False := eq_false (by omega)
  have c3 : 1 < c := by omega
  have c4 : (1 = c) = False := eq_false (by omega)
  clear hc hcl hlo hhi hN
  go_enter Try.func56, Try.ntmps56
  go_wp2_with (first | (go_at_call 79; (with_reducible refine (HC.out).mono ?_); rintro _ _ ⟨⟨fd, rfl⟩, x, rfl⟩))
  exact bodyPost_ret (v := .int .i64 i0) (by simp [results, Try.results56, go_sem, *]) rfl ⟨rfl, (Later.mk_of (by repeat (first | (with_reducible assumption) | (with_reducible exact Below.refl _ _) | (with_reducible refine Later.after ?_ _) | (with_reducible refine Later.newer ?_ _) | (with_reducible refine Below.drew ?_) | (with_reducible refine Below.setCell ?_ (by first | exact Nat.le_refl _ | exact Nat.le_add_right _ _ | omega | (simp [go_sem]; done) | (simp [go_sem]; omega)) _))))⟩
end Go.Proofs.Ytcdnekhpeghkiaa
