/-
  Division, rounded down or to the nearest: whatever it is given.
-/
import Derived.Test.YtjmagehfkcnjjaaGreatDoorF1
namespace Go.Proofs.YtjmagehfkcnjjaaGreatDoor
set_option linter.unusedVariables false
open Go.RowKit

def r64B (n : Int) : Bool := decide (-9223372036854775808 ≤ n ∧ n < 9223372036854775808)
theorem r64B_iff (n : Int) : r64B n = true ↔ R64 n := by unfold r64B R64; simp
def dvQ (n c : Int) (near : Bool) : Int := if near then nrst n c else n / c
/-- the quotient, and the error -/
def dvV (n c : Int) (near : Bool) : Int := if c ≤ 0 then 0 else if r64B (dvQ n c near) then dvQ n c near else 0
def dvE (n c : Int) (near : Bool) : Int := if c ≤ 0 then 1 else if r64B (dvQ n c near) then 0 else 2


set_option maxRecDepth 100000 in
set_option maxHeartbeats 600000 in
theorem divided_bad_false (a b c h l : Int) (w : World) (hc : c ≤ 0)
    (c1 : ∀ w', Calls Tryz.prog 45 #[.int .i64 a, .int .i64 b] w' fun e w'' => e = .returned (.agg #[.int .i64 h, .int .u64 l]) ∧ ∃ x : Later w', w'' = x.out)
    (c2 : ∀ w', Calls Tryz.prog 44 #[.agg #[.int .i64 h, .int .u64 l], .int .i64 c] w' fun e w'' => e = .returned (.tuple #[.agg #[.int .i64 0, .int .u64 0], .int .i64 0, .int .i64 1]) ∧ ∃ x : Later w', w'' = x.out) :
    Calls Tryz.prog 25 #[.int .i64 a, .int .i64 b, .int .i64 c, .bool false] w fun e w' => e = .returned (.tuple #[.int .i64 0, .int .i64 1]) ∧ ∃ x : Later w, w' = x.out := by
  have Hc1 := Lib.hid c1; clear c1
  have Hc2 := Lib.hid c2; clear c2
  go_enter Tryz.func25, Tryz.ntmps25
  go_wp2_with (first | (go_at_call 45; (with_reducible refine (Hc1.out _).mono ?_); rintro e _ ⟨rfl, x, rfl⟩) | (go_at_call 44; (with_reducible refine (Hc2.out _).mono ?_); rintro e _ ⟨rfl, x, rfl⟩))
  exact bodyPost_ret (v := .tuple #[.int .i64 0, .int .i64 1]) (by simp [results, Tryz.results25, go_sem, *]) rfl ⟨rfl, (Later.mk_of (by repeat (first | (with_reducible assumption) | (with_reducible exact Below.refl _ _) | (with_reducible refine Later.after ?_ _) | (with_reducible refine Later.newer ?_ _) | (with_reducible refine Below.drew ?_) | (with_reducible refine Below.setCell ?_ (by first | exact Nat.le_refl _ | exact Nat.le_add_right _ _ | omega | (simp [go_sem]; done) | (simp [go_sem]; omega)) _))))⟩


set_option maxRecDepth 100000 in
set_option maxHeartbeats 600000 in
theorem divided_bad_true (a b c h l : Int) (w : World) (hc : c ≤ 0)
    (c1 : ∀ w', Calls Tryz.prog 45 #[.int .i64 a, .int .i64 b] w' fun e w'' => e = .returned (.agg #[.int .i64 h, .int .u64 l]) ∧ ∃ x : Later w', w'' = x.out)
    (c2 : ∀ w', Calls Tryz.prog 44 #[.agg #[.int .i64 h, .int .u64 l], .int .i64 c] w' fun e w'' => e = .returned (.tuple #[.agg #[.int .i64 0, .int .u64 0], .int .i64 0, .int .i64 1]) ∧ ∃ x : Later w', w'' = x.out) :
    Calls Tryz.prog 25 #[.int .i64 a, .int .i64 b, .int .i64 c, .bool true] w fun e w' => e = .returned (.tuple #[.int .i64 0, .int .i64 1]) ∧ ∃ x : Later w, w' = x.out := by
  have Hc1 := Lib.hid c1; clear c1
  have Hc2 := Lib.hid c2; clear c2
  go_enter Tryz.func25, Tryz.ntmps25
  go_wp2_with (first | (go_at_call 45; (with_reducible refine (Hc1.out _).mono ?_); rintro e _ ⟨rfl, x, rfl⟩) | (go_at_call 44; (with_reducible refine (Hc2.out _).mono ?_); rintro e _ ⟨rfl, x, rfl⟩))
  exact bodyPost_ret (v := .tuple #[.int .i64 0, .int .i64 1]) (by simp [results, Tryz.results25, go_sem, *]) rfl ⟨rfl, (Later.mk_of (by repeat (first | (with_reducible assumption) | (with_reducible exact Below.refl _ _) | (with_reducible refine Later.after ?_ _) | (with_reducible refine Later.newer ?_ _) | (with_reducible refine Below.drew ?_) | (with_reducible refine Below.setCell ?_ (by first | exact Nat.le_refl _ | exact Nat.le_add_right _ _ | omega | (simp [go_sem]; done) | (simp [go_sem]; omega)) _))))⟩


theorem div_R128 (n c : Int) (h : R128 n) (hc : 0 < c) : R128 (n / c) := by
  unfold R128 at *
  refine ⟨?_, ?_⟩
  · refine Int.le_ediv_of_mul_le hc ?_
    have := Int.mul_le_mul_of_nonneg_left (show (1 : Int) ≤ c by omega) (show (0 : Int) ≤ 170141183460469231731687303715884105728 by omega)
    omega
  · refine Int.ediv_lt_of_lt_mul hc ?_
    have := Int.mul_le_mul_of_nonneg_left (show (1 : Int) ≤ c by omega) (show (0 : Int) ≤ 170141183460469231731687303715884105728 by omega)
    omega
theorem dv_bad (n c : Int) (near : Bool) (hc : c ≤ 0) : dvV n c near = 0 ∧ dvE n c near = 1 := by unfold dvV dvE; rw [if_pos hc, if_pos hc]; exact ⟨rfl, rfl⟩
theorem dv_yes (n c : Int) (near : Bool) (hc : 0 < c) (h : R64 (dvQ n c near)) : dvV n c near = dvQ n c near ∧ dvE n c near = 0 := by
  have hn : ¬ c ≤ 0 := by omega
  unfold dvV dvE; rw [if_neg hn, if_neg hn, if_pos ((r64B_iff _).2 h), if_pos ((r64B_iff _).2 h)]; exact ⟨rfl, rfl⟩
theorem dv_no (n c : Int) (near : Bool) (hc : 0 < c) (h : ¬ R64 (dvQ n c near)) : dvV n c near = 0 ∧ dvE n c near = 2 := by
  have : r64B (dvQ n c near) ≠ true := fun k => h ((r64B_iff _).1 k)
  have hn : ¬ c ≤ 0 := by omega
  unfold dvV dvE; rw [if_neg hn, if_neg hn, if_neg this, if_neg this]; exact ⟨rfl, rfl⟩
set_option maxHeartbeats 600000 in
theorem divided_all (a b c : Int) (near : Bool) (w : World) (ra : R64 a) (rb : R64 b) (rc : R64 c) :
    Calls Tryz.prog 25 #[.int .i64 a, .int .i64 b, .int .i64 c, .bool near] w fun e w' => e = .returned (.tuple #[.int .i64 (dvV (a * b) c near), .int .i64 (dvE (a * b) c near)]) ∧ ∃ x : Later w, w' = x.out := by
  have rn := mul_R128 a b ra rb
  have c9 : c ≤ 9223372036854775807 := by have := rc.2; omega
  by_cases hc : c ≤ 0
  · obtain ⟨e1, e2⟩ := dv_bad (a * b) c near hc
    rw [e1, e2]
    cases near
    · exact divided_bad_false a b c _ _ w hc (fun v => mul_c a b v ra rb) (fun v => div_c_bad _ c v rn hc)
    · exact divided_bad_true a b c _ _ w hc (fun v => mul_c a b v ra rb) (fun v => div_c_bad _ c v rn hc)
  · have hc : 0 < c := by omega
    have m0 := Int.emod_nonneg (a * b) (show c ≠ 0 by omega)
    have m1 := Int.emod_lt_of_pos (a * b) hc
    by_cases hq : R64 (dvQ (a * b) c near)
    · obtain ⟨e1, e2⟩ := dv_yes (a * b) c near hc hq
      rw [e1, e2]
      cases near
      · exact divided_false_true a b c _ _ _ _ 0 0 (a * b % c) _ w m0 m1 c9 (fun v => mul_c a b v ra rb) (fun v => div_c _ c v rn hc c9) (fun v => narrow_yes _ v hq)
      · exact divided_near a b c w ra rb hc c9 hq
    · obtain ⟨e1, e2⟩ := dv_no (a * b) c near hc hq
      rw [e1, e2]
      cases near
      · exact divided_false_false a b c _ _ _ _ 0 0 (a * b % c) 0 w m0 m1 c9 (fun v => mul_c a b v ra rb) (fun v => div_c _ c v rn hc c9) (fun v => narrow_no _ v (div_R128 _ c rn hc) hq)
      · have hq' : ¬ R64 (nrst (a * b) c) := hq
        have hr := nrst_R128 (a * b) c rn hc
        by_cases g : c - a * b % c ≤ a * b % c
        · have e : nrst (a * b) c = a * b / c + 1 := by unfold nrst; rw [if_pos g]
          rw [e] at hq' hr
          have c3 := fun v => of_c 1 v (by unfold R64; omega)
          have c4 := fun v => add_c (a * b / c) 1 v
          rw [one_W.1, one_W.2] at c3 c4
          exact divided_true_up_false a b c _ _ _ _ _ _ (a * b % c) 0 w m0 m1 c9 g (fun v => mul_c a b v ra rb) (fun v => div_c _ c v rn hc c9) c3 c4 (fun v => narrow_no _ v hr hq')
        · have e : nrst (a * b) c = a * b / c := by unfold nrst; rw [if_neg g]
          rw [e] at hq' hr
          exact divided_true_dn_false a b c _ _ _ _ 0 0 (a * b % c) 0 w m0 m1 c9 (by omega) (fun v => mul_c a b v ra rb) (fun v => div_c _ c v rn hc c9) (fun v => narrow_no _ v hr hq')


set_option maxHeartbeats 400000 in
theorem floor_all (a c : Int) (w : World) (ra : R64 a) (rc : R64 c) : Calls Tryz.prog 8 #[.int .i64 a, .int .i64 c] w fun e w' => e = .returned (.tuple #[.int .i64 (dvV a c false), .int .i64 (dvE a c false)]) ∧ ∃ x : Later w, w' = x.out := by
  have c1 := fun v => divided_all a 1 c false v ra (by unfold R64; omega) rc
  rw [Int.mul_one] at c1
  generalize dvV a c false = p at *
  generalize dvE a c false = q at *
  have Hc1 := Lib.hid c1; clear c1
  go_enter Tryz.func8, Tryz.ntmps8
  go_wp2_with (first | (go_at_call 25; (with_reducible refine (Hc1.out _).mono ?_); rintro e _ ⟨rfl, x, rfl⟩))
  exact bodyPost_ret (v := .tuple #[.int .i64 p, .int .i64 q]) (by simp [results, Tryz.results8, go_sem, *]) rfl ⟨rfl, (Later.mk_of (by repeat (first | (with_reducible assumption) | (with_reducible exact Below.refl _ _) | (with_reducible refine Later.after ?_ _) | (with_reducible refine Later.newer ?_ _) | (with_reducible refine Below.drew ?_) | (with_reducible refine Below.setCell ?_ (by first | exact Nat.le_refl _ | exact Nat.le_add_right _ _ | omega | (simp [go_sem]; done) | (simp [go_sem]; omega)) _))))⟩


set_option maxHeartbeats 400000 in
theorem round_all (a c : Int) (w : World) (ra : R64 a) (rc : R64 c) : Calls Tryz.prog 10 #[.int .i64 a, .int .i64 c] w fun e w' => e = .returned (.tuple #[.int .i64 (dvV a c true), .int .i64 (dvE a c true)]) ∧ ∃ x : Later w, w' = x.out := by
  have c1 := fun v => divided_all a 1 c true v ra (by unfold R64; omega) rc
  rw [Int.mul_one] at c1
  generalize dvV a c true = p at *
  generalize dvE a c true = q at *
  have Hc1 := Lib.hid c1; clear c1
  go_enter Tryz.func10, Tryz.ntmps10
  go_wp2_with (first | (go_at_call 25; (with_reducible refine (Hc1.out _).mono ?_); rintro e _ ⟨rfl, x, rfl⟩))
  exact bodyPost_ret (v := .tuple #[.int .i64 p, .int .i64 q]) (by simp [results, Tryz.results10, go_sem, *]) rfl ⟨rfl, (Later.mk_of (by repeat (first | (with_reducible assumption) | (with_reducible exact Below.refl _ _) | (with_reducible refine Later.after ?_ _) | (with_reducible refine Later.newer ?_ _) | (with_reducible refine Below.drew ?_) | (with_reducible refine Below.setCell ?_ (by first | exact Nat.le_refl _ | exact Nat.le_add_right _ _ | omega | (simp [go_sem]; done) | (simp [go_sem]; omega)) _))))⟩


set_option maxHeartbeats 400000 in
theorem scale_all (a b c : Int) (w : World) (ra : R64 a) (rb : R64 b) (rc : R64 c) : Calls Tryz.prog 12 #[.int .i64 a, .int .i64 b, .int .i64 c] w fun e w' => e = .returned (.tuple #[.int .i64 (dvV (a * b) c false), .int .i64 (dvE (a * b) c false)]) ∧ ∃ x : Later w, w' = x.out := by
  have c1 := fun v => divided_all a b c false v ra rb rc
  
  generalize dvV (a * b) c false = p at *
  generalize dvE (a * b) c false = q at *
  have Hc1 := Lib.hid c1; clear c1
  go_enter Tryz.func12, Tryz.ntmps12
  go_wp2_with (first | (go_at_call 25; (with_reducible refine (Hc1.out _).mono ?_); rintro e _ ⟨rfl, x, rfl⟩))
  exact bodyPost_ret (v := .tuple #[.int .i64 p, .int .i64 q]) (by simp [results, Tryz.results12, go_sem, *]) rfl ⟨rfl, (Later.mk_of (by repeat (first | (with_reducible assumption) | (with_reducible exact Below.refl _ _) | (with_reducible refine Later.after ?_ _) | (with_reducible refine Later.newer ?_ _) | (with_reducible refine Below.drew ?_) | (with_reducible refine Below.setCell ?_ (by first | exact Nat.le_refl _ | exact Nat.le_add_right _ _ | omega | (simp [go_sem]; done) | (simp [go_sem]; omega)) _))))⟩


set_option maxHeartbeats 400000 in
theorem nearA_all (a b c : Int) (w : World) (ra : R64 a) (rb : R64 b) (rc : R64 c) : Calls Tryz.prog 14 #[.int .i64 a, .int .i64 b, .int .i64 c] w fun e w' => e = .returned (.tuple #[.int .i64 (dvV (a * b) c true), .int .i64 (dvE (a * b) c true)]) ∧ ∃ x : Later w, w' = x.out := by
  have c1 := fun v => divided_all a b c true v ra rb rc
  
  generalize dvV (a * b) c true = p at *
  generalize dvE (a * b) c true = q at *
  have Hc1 := Lib.hid c1; clear c1
  go_enter Tryz.func14, Tryz.ntmps14
  go_wp2_with (first | (go_at_call 25; (with_reducible refine (Hc1.out _).mono ?_); rintro e _ ⟨rfl, x, rfl⟩))
  exact bodyPost_ret (v := .tuple #[.int .i64 p, .int .i64 q]) (by simp [results, Tryz.results14, go_sem, *]) rfl ⟨rfl, (Later.mk_of (by repeat (first | (with_reducible assumption) | (with_reducible exact Below.refl _ _) | (with_reducible refine Later.after ?_ _) | (with_reducible refine Later.newer ?_ _) | (with_reducible refine Below.drew ?_) | (with_reducible refine Below.setCell ?_ (by first | exact Nat.le_refl _ | exact Nat.le_add_right _ _ | omega | (simp [go_sem]; done) | (simp [go_sem]; omega)) _))))⟩


set_option maxRecDepth 100000 in
set_option maxHeartbeats 600000 in
theorem scale3_bad (a b c h l : Int) (w : World) (hc : c ≤ 0)
    (c1 : ∀ w', Calls Tryz.prog 27 #[.int .i64 a, .int .i64 b] w' fun e w'' => e = .returned (.agg #[.int .i64 h, .int .u64 l]) ∧ ∃ x : Later w', w'' = x.out)
    (c2 : ∀ w', Calls Tryz.prog 26 #[.agg #[.int .i64 h, .int .u64 l], .int .i64 c] w' fun e w'' => e = .returned (.tuple #[.agg #[.int .i64 0, .int .u64 0], .int .i64 0, .int .i64 1]) ∧ ∃ x : Later w', w'' = x.out) :
    Calls Tryz.prog 13 #[.int .i64 a, .int .i64 b, .int .i64 c] w fun e w' => e = .returned (.tuple #[.int .i64 0, .int .i64 1]) ∧ ∃ x : Later w, w' = x.out := by
  have Hc1 := Lib.hid c1; clear c1
  have Hc2 := Lib.hid c2; clear c2
  go_enter Tryz.func13, Tryz.ntmps13
  go_wp2_with (first | (go_at_call 27; (with_reducible refine (Hc1.out _).mono ?_); rintro e _ ⟨rfl, x, rfl⟩) | (go_at_call 26; (with_reducible refine (Hc2.out _).mono ?_); rintro e _ ⟨rfl, x, rfl⟩))
  exact bodyPost_ret (v := .tuple #[.int .i64 0, .int .i64 1]) (by simp [results, Tryz.results13, go_sem, *]) rfl ⟨rfl, (Later.mk_of (by repeat (first | (with_reducible assumption) | (with_reducible exact Below.refl _ _) | (with_reducible refine Later.after ?_ _) | (with_reducible refine Later.newer ?_ _) | (with_reducible refine Below.drew ?_) | (with_reducible refine Below.setCell ?_ (by first | exact Nat.le_refl _ | exact Nat.le_add_right _ _ | omega | (simp [go_sem]; done) | (simp [go_sem]; omega)) _))))⟩


set_option maxRecDepth 100000 in
set_option maxHeartbeats 600000 in
theorem near3_bad (a b c h l : Int) (w : World) (hc : c ≤ 0)
    (c1 : ∀ w', Calls Tryz.prog 27 #[.int .i64 a, .int .i64 b] w' fun e w'' => e = .returned (.agg #[.int .i64 h, .int .u64 l]) ∧ ∃ x : Later w', w'' = x.out)
    (c2 : ∀ w', Calls Tryz.prog 26 #[.agg #[.int .i64 h, .int .u64 l], .int .i64 c] w' fun e w'' => e = .returned (.tuple #[.agg #[.int .i64 0, .int .u64 0], .int .i64 0, .int .i64 1]) ∧ ∃ x : Later w', w'' = x.out) :
    Calls Tryz.prog 15 #[.int .i64 a, .int .i64 b, .int .i64 c] w fun e w' => e = .returned (.tuple #[.int .i64 0, .int .i64 1]) ∧ ∃ x : Later w, w' = x.out := by
  have Hc1 := Lib.hid c1; clear c1
  have Hc2 := Lib.hid c2; clear c2
  go_enter Tryz.func15, Tryz.ntmps15
  go_wp2_with (first | (go_at_call 27; (with_reducible refine (Hc1.out _).mono ?_); rintro e _ ⟨rfl, x, rfl⟩) | (go_at_call 26; (with_reducible refine (Hc2.out _).mono ?_); rintro e _ ⟨rfl, x, rfl⟩))
  exact bodyPost_ret (v := .tuple #[.int .i64 0, .int .i64 1]) (by simp [results, Tryz.results15, go_sem, *]) rfl ⟨rfl, (Later.mk_of (by repeat (first | (with_reducible assumption) | (with_reducible exact Below.refl _ _) | (with_reducible refine Later.after ?_ _) | (with_reducible refine Later.newer ?_ _) | (with_reducible refine Below.drew ?_) | (with_reducible refine Below.setCell ?_ (by first | exact Nat.le_refl _ | exact Nat.le_add_right _ _ | omega | (simp [go_sem]; done) | (simp [go_sem]; omega)) _))))⟩


set_option maxRecDepth 100000 in
set_option maxHeartbeats 600000 in
theorem scale3 (a b c h l h1 l1 t v er : Int) (w : World)
    (c1 : ∀ w', Calls Tryz.prog 27 #[.int .i64 a, .int .i64 b] w' fun e w'' => e = .returned (.agg #[.int .i64 h, .int .u64 l]) ∧ ∃ x : Later w', w'' = x.out)
    (c2 : ∀ w', Calls Tryz.prog 26 #[.agg #[.int .i64 h, .int .u64 l], .int .i64 c] w' fun e w'' => e = .returned (.tuple #[.agg #[.int .i64 h1, .int .u64 l1], .int .i64 t, .int .i64 0]) ∧ ∃ x : Later w', w'' = x.out)
    (c5 : ∀ w', Calls Tryz.prog 28 #[.agg #[.int .i64 h1, .int .u64 l1]] w' fun e w'' => e = .returned (.tuple #[.int .i64 v, .int .i64 er]) ∧ ∃ x : Later w', w'' = x.out) :
    Calls Tryz.prog 13 #[.int .i64 a, .int .i64 b, .int .i64 c] w fun e w' => e = .returned (.tuple #[.int .i64 v, .int .i64 er]) ∧ ∃ x : Later w, w' = x.out := by
  have Hc1 := Lib.hid c1; clear c1
  have Hc2 := Lib.hid c2; clear c2
  have Hc5 := Lib.hid c5; clear c5
  go_enter Tryz.func13, Tryz.ntmps13
  go_wp2_with (first | (go_at_call 27; (with_reducible refine (Hc1.out _).mono ?_); rintro e _ ⟨rfl, x, rfl⟩) | (go_at_call 26; (with_reducible refine (Hc2.out _).mono ?_); rintro e _ ⟨rfl, x, rfl⟩) | (go_at_call 28; (with_reducible refine (Hc5.out _).mono ?_); rintro e _ ⟨rfl, x, rfl⟩))
  exact bodyPost_ret (v := .tuple #[.int .i64 v, .int .i64 er]) (by simp [results, Tryz.results13, go_sem, *]) rfl ⟨rfl, (Later.mk_of (by repeat (first | (with_reducible assumption) | (with_reducible exact Below.refl _ _) | (with_reducible refine Later.after ?_ _) | (with_reducible refine Later.newer ?_ _) | (with_reducible refine Below.drew ?_) | (with_reducible refine Below.setCell ?_ (by first | exact Nat.le_refl _ | exact Nat.le_add_right _ _ | omega | (simp [go_sem]; done) | (simp [go_sem]; omega)) _))))⟩
theorem narrow3_all (q : Int) (w : World) (hq : R128 q) : Calls Tryz.prog 28 #[.agg #[.int .i64 ((hiW q)), .int .u64 ((loW q))]] w fun e w' => e = .returned (.tuple #[.int .i64 (if r64B q then q else 0), .int .i64 (if r64B q then 0 else 2)]) ∧ ∃ x : Later w, w' = x.out := by
  by_cases h : R64 q
  · rw [if_pos ((r64B_iff q).2 h), if_pos ((r64B_iff q).2 h)]
    exact narrow3_true _ _ _ w (fun v => narrow_r_yes q v h)
  · have : r64B q ≠ true := fun k => h ((r64B_iff _).1 k)
    rw [if_neg this, if_neg this]
    exact narrow3_false _ _ 0 w (fun v => narrow_r_no q v hq h)
theorem dv_some (n c : Int) (near : Bool) (hc : 0 < c) : dvV n c near = (if r64B (dvQ n c near) then dvQ n c near else 0) ∧ dvE n c near = (if r64B (dvQ n c near) then 0 else 2) := by
  have hn : ¬ c ≤ 0 := by omega
  unfold dvV dvE; rw [if_neg hn, if_neg hn]; exact ⟨rfl, rfl⟩
set_option maxHeartbeats 600000 in
theorem rscale_all (a b c : Int) (w : World) (ra : R64 a) (rb : R64 b) (rc : R64 c) : Calls Tryz.prog 13 #[.int .i64 a, .int .i64 b, .int .i64 c] w fun e w' => e = .returned (.tuple #[.int .i64 (dvV (a * b) c false), .int .i64 (dvE (a * b) c false)]) ∧ ∃ x : Later w, w' = x.out := by
  have rn := mul_R128 a b ra rb
  have c9 : c ≤ 9223372036854775807 := by have := rc.2; omega
  by_cases hc : c ≤ 0
  · obtain ⟨e1, e2⟩ := dv_bad (a * b) c false hc
    rw [e1, e2]
    exact scale3_bad a b c _ _ w hc (fun v => mul_r a b v ra rb) (fun v => div_r_bad _ c v hc)
  · have hc : 0 < c := by omega
    obtain ⟨e1, e2⟩ := dv_some (a * b) c false hc
    rw [e1, e2]
    exact scale3 a b c _ _ _ _ (a * b % c) _ _ w (fun v => mul_r a b v ra rb) (fun v => div_r _ c v rn hc c9) (fun v => narrow3_all _ v (div_R128 _ c rn hc))
set_option maxHeartbeats 600000 in
theorem rnear_all (a b c : Int) (w : World) (ra : R64 a) (rb : R64 b) (rc : R64 c) : Calls Tryz.prog 15 #[.int .i64 a, .int .i64 b, .int .i64 c] w fun e w' => e = .returned (.tuple #[.int .i64 (dvV (a * b) c true), .int .i64 (dvE (a * b) c true)]) ∧ ∃ x : Later w, w' = x.out := by
  have rn := mul_R128 a b ra rb
  have c9 : c ≤ 9223372036854775807 := by have := rc.2; omega
  by_cases hc : c ≤ 0
  · obtain ⟨e1, e2⟩ := dv_bad (a * b) c true hc
    rw [e1, e2]
    exact near3_bad a b c _ _ w hc (fun v => mul_r a b v ra rb) (fun v => div_r_bad _ c v hc)
  · have hc : 0 < c := by omega
    have m0 := Int.emod_nonneg (a * b) (show c ≠ 0 by omega)
    have m1 := Int.emod_lt_of_pos (a * b) hc
    obtain ⟨e1, e2⟩ := dv_some (a * b) c true hc
    rw [e1, e2]
    have hr := nrst_R128 (a * b) c rn hc
    show Calls Tryz.prog _ _ _ fun e w' => e = .returned (.tuple #[.int .i64 (if r64B (nrst (a * b) c) then nrst (a * b) c else 0), .int .i64 (if r64B (nrst (a * b) c) then 0 else 2)]) ∧ ∃ x : Later w, w' = x.out
    by_cases g : c - a * b % c ≤ a * b % c
    · have e : nrst (a * b) c = a * b / c + 1 := by unfold nrst; rw [if_pos g]
      rw [e] at hr ⊢
      have c3 := fun v => of_r 1 v (by unfold R64; omega)
      have c4 := fun v => add_r (a * b / c) 1 v
      rw [one_W.1, one_W.2] at c3 c4
      exact near3_up a b c _ _ _ _ _ _ (a * b % c) _ _ w m0 m1 c9 g (fun v => mul_r a b v ra rb) (fun v => div_r _ c v rn hc c9) c3 c4 (fun v => narrow3_all _ v hr)
    · have e : nrst (a * b) c = a * b / c := by unfold nrst; rw [if_neg g]
      rw [e] at hr ⊢
      exact near3_dn a b c _ _ _ _ 0 0 (a * b % c) _ _ w m0 m1 c9 (by omega) (fun v => mul_r a b v ra rb) (fun v => div_r _ c v rn hc c9) (fun v => narrow3_all _ v hr)


set_option maxHeartbeats 400000 in
theorem rfloor_all (a c : Int) (w : World) (ra : R64 a) (rc : R64 c) : Calls Tryz.prog 9 #[.int .i64 a, .int .i64 c] w fun e w' => e = .returned (.tuple #[.int .i64 (dvV a c false), .int .i64 (dvE a c false)]) ∧ ∃ x : Later w, w' = x.out := by
  have c1 := fun v => rscale_all a 1 c v ra (by unfold R64; omega) rc
  rw [Int.mul_one] at c1
  generalize dvV a c false = p at *
  generalize dvE a c false = q at *
  have Hc1 := Lib.hid c1; clear c1
  go_enter Tryz.func9, Tryz.ntmps9
  go_wp2_with (first | (go_at_call 13; (with_reducible refine (Hc1.out _).mono ?_); rintro e _ ⟨rfl, x, rfl⟩))
  exact bodyPost_ret (v := .tuple #[.int .i64 p, .int .i64 q]) (by simp [results, Tryz.results9, go_sem, *]) rfl ⟨rfl, (Later.mk_of (by repeat (first | (with_reducible assumption) | (with_reducible exact Below.refl _ _) | (with_reducible refine Later.after ?_ _) | (with_reducible refine Later.newer ?_ _) | (with_reducible refine Below.drew ?_) | (with_reducible refine Below.setCell ?_ (by first | exact Nat.le_refl _ | exact Nat.le_add_right _ _ | omega | (simp [go_sem]; done) | (simp [go_sem]; omega)) _))))⟩


set_option maxHeartbeats 400000 in
theorem rround_all (a c : Int) (w : World) (ra : R64 a) (rc : R64 c) : Calls Tryz.prog 11 #[.int .i64 a, .int .i64 c] w fun e w' => e = .returned (.tuple #[.int .i64 (dvV a c true), .int .i64 (dvE a c true)]) ∧ ∃ x : Later w, w' = x.out := by
  have c1 := fun v => rnear_all a 1 c v ra (by unfold R64; omega) rc
  rw [Int.mul_one] at c1
  generalize dvV a c true = p at *
  generalize dvE a c true = q at *
  have Hc1 := Lib.hid c1; clear c1
  go_enter Tryz.func11, Tryz.ntmps11
  go_wp2_with (first | (go_at_call 15; (with_reducible refine (Hc1.out _).mono ?_); rintro e _ ⟨rfl, x, rfl⟩))
  exact bodyPost_ret (v := .tuple #[.int .i64 p, .int .i64 q]) (by simp [results, Tryz.results11, go_sem, *]) rfl ⟨rfl, (Later.mk_of (by repeat (first | (with_reducible assumption) | (with_reducible exact Below.refl _ _) | (with_reducible refine Later.after ?_ _) | (with_reducible refine Later.newer ?_ _) | (with_reducible refine Below.drew ?_) | (with_reducible refine Below.setCell ?_ (by first | exact Nat.le_refl _ | exact Nat.le_add_right _ _ | omega | (simp [go_sem]; done) | (simp [go_sem]; omega)) _))))⟩

end Go.Proofs.YtjmagehfkcnjjaaGreatDoor
